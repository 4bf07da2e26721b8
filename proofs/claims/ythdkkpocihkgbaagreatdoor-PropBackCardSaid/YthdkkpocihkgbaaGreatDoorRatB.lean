import Derived.Test.YthdkkpocihkgbaaGreatDoorBitW
set_option maxRecDepth 100000
set_option maxHeartbeats 4000000
namespace Go.Proofs.YthdkkpocihkgbaaGreatDoor
open Go.RowKit
def RatB(S:Nat→Prop)(w:World)(v:Value)(q:Rat):Prop:=∃ a c a' c',v= .agg #[.bool (decide (q.num<0)),.slice a (bits q.num.natAbs).length c,.slice a' (bits q.den).length c']∧
 Rp.bl.rel S w [.slice a (bits q.num.natAbs).length c] (bits q.num.natAbs)∧Rp.bl.rel S w [.slice a' (bits q.den).length c'] (bits q.den)
theorem RatB.keep{S S':Nat→Prop}{w w':World}{v:Value}{q:Rat}(h:RatB S w v q)(hs:∀ b,S b→S' b∧w'.heap[b]?=w.heap[b]?):RatB S' w' v q:=by
 obtain⟨a,c,a',c',e,h1,h2⟩:=h;exact⟨a,c,a',c',e,Rp.bl.keep h1 hs,Rp.bl.keep h2 hs⟩
theorem RatB.mono{S S':Nat→Prop}{w:World}{v:Value}{q:Rat}(h:RatB S w v q)(hs:∀ b,S b→S' b):RatB S' w v q:=h.keep fun b hb=>⟨hs b hb,rfl⟩
theorem RatB.below{w w':World}{v:Value}{q:Rat}(h:RatB (Lt w.heap.size) w v q)(hx:Ext w w'):RatB (Lt w'.heap.size) w' v q:=h.keep fun b hb=>⟨Nat.lt_of_lt_of_le hb hx.size,hx.block b hb⟩
theorem RatB.lt{S:Nat→Prop}{w:World}{v:Value}{q:Rat}{n:Nat}(h:RatB (Mo S n w) w v q):RatB (Lt w.heap.size) w v q:=h.mono fun _ hb=>hb.2
def RatBAns(q:Rat)(S:Nat→Prop)(w:World):Ending→World→Prop:=fun e w'=>∃ v,e= .returned v∧Ext w w'∧RatB (Mo S w.heap.size w') w' v q
theorem RatB.open{S:Nat→Prop}{w:World}{v:Value}{q:Rat}(h:RatB S w v q):∃ (nb:Bool) (x d:Nat) (a a':Option Addr) (c c':Nat),v= .agg #[.bool nb,.slice a (bits x).length c,.slice a' (bits d).length c']∧decide (q.num<0)=nb∧q.num.natAbs=x∧q.den=d∧
  Rp.bl.rel S w [.slice a (bits x).length c] (bits x)∧Rp.bl.rel S w [.slice a' (bits d).length c'] (bits d):=by
 obtain⟨a,c,a',c',e,h1,h2⟩:=h;exact⟨_,_,_,a,a',c,c',e,rfl,rfl,rfl,h1,h2⟩
theorem RatB.mk{S:Nat→Prop}{w:World}{q:Rat}{nb:Bool}{x d:Nat}{a a':Option Addr}{c c':Nat}(hb:decide (q.num<0)=nb)(hx:q.num.natAbs=x)(hd:q.den=d)
  (h1:Rp.bl.rel S w [.slice a (bits x).length c] (bits x)) (h2:Rp.bl.rel S w [.slice a' (bits d).length c'] (bits d)):RatB S w (.agg #[.bool nb,.slice a (bits x).length c,.slice a' (bits d).length c']) q:=by
 subst hb hx hd;exact⟨a,c,a',c',rfl,h1,h2⟩
theorem bd_lenB{k n:Nat}(h:n<2^k)(hk:k≤100000000):(bits n).length≤100000000:=Nat.le_trans (bits_len_le h) hk
theorem lowB_any(v:Value)(q:Rat)(w:World)(S:Nat→Prop)(hS:∀ b,S b→b<w.heap.size)(h:RatB S w v q):Calls Tryz.prog 125 #[v] w (BitAns q.den S w):=by
 obtain⟨a,c,a',c',rfl,h1,h2⟩:=h;have H2:=Lib.hid h2;have HS:=Lib.hid hS;have hne:¬ bits q.den=[]:=fun e=>q.den_nz (bits_eq_nil.1 e);have hlp:=List.length_pos_iff.2 hne;have hb2:(((bits q.den).length:Int)==0)=false:=by rw[beq_eq_false_iff_ne];omega
 clear h1 h2 hS
 go_enter Tryz.func125,Tryz.ntmps125
 go_wp2
 go_ret
 exact⟨a',c',rfl,(Below.refl _ _).al _,Rp.bl.keep H2.out fun b hb=>⟨⟨.inl hb,by have:=HS.out b hb;simp;omega⟩,((Below.refl w.heap.size w).al _).block b (HS.out b hb)⟩⟩
theorem lowE{v:Value}{q:Rat}{d:Nat}(w0 w:World)(h:RatB (Lt w0.heap.size) w0 v q)(hx:Ext w0 w)(hd:q.den=d):Calls Tryz.prog 125 #[v] w (BitAns d (Lt w0.heap.size) w):=by
 subst hd;exact lowB_any v q w _ (fun _ hb=>Nat.lt_of_lt_of_le hb hx.size) (h.keep fun b hb=>⟨hb,hx.block b hb⟩)
theorem signB_any(v:Value)(q:Rat)(w:World)(S:Nat→Prop)(h:RatB S w v q):Calls Tryz.prog 63 #[v] w fun e w'=>e= .returned (.int .i64 (sgnR q))∧Ext w w':=by
 obtain⟨a,c,a',c',rfl,h1,h2⟩:=h;clear h1 h2;by_cases h0:q.num=0
 ·have hs:sgnR q=0:=by unfold sgnR;rw[if_neg (by omega),if_pos h0]
  have hl:bits q.num.natAbs=[]:=by rw[h0];exact bits_zero'
  rw[hs,hl];clear h0 hs hl
  go_enter Tryz.func63,Tryz.ntmps63
  go_wp2
  go_ret
  exact⟨rfl,(Below.refl _ _).al _⟩
 ·have hne:¬ bits q.num.natAbs=[]:=fun e=>by have:=bits_eq_nil.1 e;omega
  have hlp:=List.length_pos_iff.2 hne;have hb2:(((bits q.num.natAbs).length:Int)==0)=false:=by rw[beq_eq_false_iff_ne];omega
  by_cases hn:q.num<0
  ·have hs:sgnR q= -1:=by unfold sgnR;rw[if_pos hn]
   rw[hs,decide_eq_true hn];clear h0 hn hs
   go_enter Tryz.func63,Tryz.ntmps63
   go_wp2
   go_ret
   exact⟨rfl,(Below.refl _ _).al _⟩
  ·have hs:sgnR q=1:=by unfold sgnR;rw[if_neg hn,if_neg h0]
   rw[hs,decide_eq_false hn];clear h0 hn hs
   go_enter Tryz.func63,Tryz.ntmps63
   go_wp2
   go_ret
   exact⟨rfl,(Below.refl _ _).al _⟩
def SumAnsB(s:Bool×Nat)(w:World):Ending→World→Prop:=fun e w'=>∃ a c,e= .returned (.tuple #[.bool s.1,.slice a (bits s.2).length c])∧Ext w w'∧Rp.bl.rel (Mo no w.heap.size w') w' [.slice a (bits s.2).length c] (bits s.2)
theorem sumB_any(an bn:Bool)(x y:Nat)(a a':Option Addr)(c c':Nat)(w:World)(h:Rp.bl.rel (Lt w.heap.size) w [.slice a (bits x).length c] (bits x))(h':Rp.bl.rel (Lt w.heap.size) w [.slice a' (bits y).length c'] (bits y))(hl:(bits x).length≤100000000)(hm:(bits y).length≤100000000):
  Calls Tryz.prog 123 #[.bool an,.slice a (bits x).length c,.bool bn,.slice a' (bits y).length c'] w (SumAnsB (sumS an x bn y) w):=by
 by_cases hs:an=bn
 ·have HE:Hid (sumS an x bn y=(an,x+y)):=by show _=_;unfold sumS;rw[if_pos hs]
  have HA:=Lib.hid (addB_any x y a a' _ _ c c' w h h' (by omega) (by omega));have hb:(an==bn)=true:=by simpa using hs
  clear hs h h';rw[HE.out]
  go_enter Tryz.func123,Tryz.ntmps123
  go_wp2_with fail
  refine HA.out.mono ?_;rintro e w1 ⟨ra,rc,rfl,hx,hr⟩;have HX:=Lib.hid hx;have HR:=Lib.hid hr;clear hx hr
  go_wp2
  go_ret2
  exact⟨ra,rc,rfl,HX.out,HR.out⟩
 ·have hb:=bool_ne_cases hs;have HC:=Lib.hid (cmpB_any x y a a' _ _ c c' w _ _ h h');by_cases hxy:y≤x
  ·have HE:Hid (sumS an x bn y=(an,x-y)):=by show _=_;unfold sumS;rw[if_neg hs,if_pos hxy]
   have HA:Hid (∀q,Calls Tryz.prog 176 #[.slice a (bits x).length c,.slice a' (bits y).length c'] (w.drewN q) (BitAns (x-y) no (w.drewN q))):=fun q=>subB_any x y a a' _ _ c c' (w.drewN q) (Rp.drN _ h q) (Rp.drN _ h' q) (by omega) hxy;have hc:0≤cmpN x y:=by unfold cmpN;rw[if_neg (by omega)];split<;>omega
   clear hs h h' hxy;rw[HE.out];generalize cmpN x y=cm at*
   go_enter Tryz.func123,Tryz.ntmps123
   go_wp2_with fail
   refine HC.out.mono ?_;rintro e w0 ⟨rfl,q,rfl⟩
   go_wp2_with fail
   refine(HA.out q).mono ?_;rintro e w1 ⟨ra,rc,rfl,hx,hr⟩;have HX:=Lib.hid (((Below.refl w.heap.size w).drN q).tr hx);have HR:=Lib.hid (Rp.bl.keep hr (S':=Mo no w.heap.size w1) (w':=w1) fun b hb=>⟨⟨.inr (hb.1.resolve_left id),hb.2⟩,rfl⟩);clear hx hr
   go_wp2
   go_ret2
   exact⟨ra,rc,rfl,HX.out,HR.out⟩
  ·have HE:Hid (sumS an x bn y=(bn,y-x)):=by show _=_;unfold sumS;rw[if_neg hs,if_neg hxy]
   have HA:Hid (∀q,Calls Tryz.prog 176 #[.slice a' (bits y).length c',.slice a (bits x).length c] (w.drewN q) (BitAns (y-x) no (w.drewN q))):=fun q=>subB_any y x a' a _ _ c' c (w.drewN q) (Rp.drN _ h' q) (Rp.drN _ h q) (by omega) (by omega);have hc:cmpN x y= -1:=cmpN_lt (by omega);rw[hc]at HC;clear hs h h' hxy hc;rw[HE.out]
   go_enter Tryz.func123,Tryz.ntmps123
   go_wp2_with fail
   refine HC.out.mono ?_;rintro e w0 ⟨rfl,q,rfl⟩
   go_wp2_with fail
   refine(HA.out q).mono ?_;rintro e w1 ⟨ra,rc,rfl,hx,hr⟩;have HX:=Lib.hid (((Below.refl w.heap.size w).drN q).tr hx);have HR:=Lib.hid (Rp.bl.keep hr (S':=Mo no w.heap.size w1) (w':=w1) fun b hb=>⟨⟨.inr (hb.1.resolve_left id),hb.2⟩,rfl⟩);clear hx hr
   go_wp2
   go_ret2
   exact⟨ra,rc,rfl,HX.out,HR.out⟩
theorem bits_len_one{y:Nat}(hy:0<y):(bits y).length=1↔y=1:=by
 constructor
 ·intro h;have h1:=bval_lt (bits y);rw[bits_val,h]at h1;omega
 ·rintro rfl;refine Nat.le_antisymm (bits_len_le (by decide)) ?_;have hne:¬ bits 1=[]:=fun e=>by have:=bits_eq_nil.1 e;omega
  exact List.length_pos_iff.2 hne
theorem RatBAns.close{S:Nat→Prop}{w w':World}{q:Rat}{nb:Bool}{x d:Nat}{a a':Option Addr}{c c':Nat}(hS:∀ b,S b→b<w.heap.size)(hx:Ext w w')(hb:decide (q.num<0)=nb)(hxx:q.num.natAbs=x)(hd:q.den=d)
  (h1:Rp.bl.rel S w [.slice a (bits x).length c] (bits x)) (h2:Rp.bl.rel S w [.slice a' (bits d).length c'] (bits d)):RatBAns q S w (.returned (.agg #[.bool nb,.slice a (bits x).length c,.slice a' (bits d).length c'])) w':=
 ⟨_,rfl,hx,RatB.mk hb hxx hd (Rp.bl.keep h1 (old_mo hS hx)) (Rp.bl.keep h2 (old_mo hS hx))⟩
theorem bl_st3{S:Nat→Prop}{w w1:World}{g:Nat}{u0 u1 u2:Value}{cs:List Value}{l:List Bool}(h:Rp.bl.rel (fun b=>(S b∨g<b)∧b<w1.heap.size) w1 cs l)(hS:∀ b,S b→b<g)(hg:w.heap.size=g):
  Rp.bl.rel (Mo S w.heap.size (((w1.setCell ⟨g,0,none⟩ u0).setCell ⟨g,1,none⟩ u1).setCell ⟨g,2,none⟩ u2)) (((w1.setCell ⟨g,0,none⟩ u0).setCell ⟨g,1,none⟩ u1).setCell ⟨g,2,none⟩ u2) cs l:=by
 subst hg;refine Rp.bl.keep h fun b hb=>?_;have hne:b≠w.heap.size:=by
  rcases hb.1 with h1 | h1
  ·have:=hS b h1;omega
  ·omega
 refine⟨⟨?_,by have:=hb.2;simpa[World.setCell] using this⟩,by rw[far_cell hne,far_cell hne,far_cell hne]⟩;rcases hb.1 with h1 | h1
 ·exact .inl h1
 ·exact .inr (by omega)
theorem ofR_any(neg:Bool)(x y:Nat)(a a':Option Addr)(n n' c c':Nat)(w:World)(S:Nat→Prop)(hS:∀ b,S b→b<w.heap.size)(h:Rp.bl.rel S w [.slice a n c] (bits x))(h':Rp.bl.rel S w [.slice a' n' c'] (bits y))
  (hl:(bits x).length≤100000000) (hm:(bits y).length≤100000000) (hy:0<y):
  Calls Tryz.prog 120 #[.bool neg,.slice a n c,.slice a' n' c'] w (RatBAns (mkRat (sgn neg x) y) S w):=by
 obtain⟨rfl,h1,h2⟩:=bl_len h;obtain⟨rfl,h1',h2'⟩:=bl_len h';obtain⟨m1,m2,m3⟩:=made_num neg x y (by omega);have HM0:=Lib.hid (And.intro m3 (And.intro m1 m2));clear m1 m2 m3;have HX0:Hid (Ext w (w.alloc (Obj.cells #[.bool false,.slice none 0 0,.slice none 0 0] 136))):=(Below.refl _ _).al _;have HT0:Hid (Thr w.heap.size (.bool false) (.slice none 0 0) (.slice none 0 0) (w.alloc (Obj.cells #[.bool false,.slice none 0 0,.slice none 0 0] 136))):=⟨by rw[cell_new];rfl,by rw[cell_new];rfl,by rw[cell_new];rfl,fun o=>froz_new _ _ _ _,by simp⟩
 have HS:=Lib.hid hS;have H1:=Lib.hid h;have H2:=Lib.hid h';have HY:=Lib.hid hy;have H3:Hid (Rp.bl.rel S (w.alloc (Obj.cells #[.bool false,.slice none 0 0,.slice none 0 0] 136)) [.slice a (bits x).length c] (bits x)):=Rp.bl.keep h fun b hb=>⟨hb,HX0.out.block b (hS b hb)⟩
 have H4:Hid (Rp.bl.rel S (w.alloc (Obj.cells #[.bool false,.slice none 0 0,.slice none 0 0] 136)) [.slice a' (bits y).length c'] (bits y)):=Rp.bl.keep h' fun b hb=>⟨hb,HX0.out.block b (hS b hb)⟩
 clear h h' hS;obtain⟨nb,hnb⟩:∃ nb,nb=(neg&&decide (0<x)):=⟨_,rfl⟩
 have HNB:=Lib.hid hnb;by_cases hy1:y=1
 ·have hlen:(((bits y).length:Int)==1)=true:=by rw[beq_iff_eq,(bits_len_one hy).2 hy1];rfl
  have HM:Hid (decide ((mkRat (sgn neg x) y).num<0)=nb∧(mkRat (sgn neg x) y).num.natAbs=x∧(mkRat (sgn neg x) y).den=y):=by
   have h9:=HM0.out;rw[←hnb]at h9;refine⟨h9.1,?_,?_⟩
   ·rw[h9.2.1,hy1,Nat.gcd_one_right,Nat.div_one]
   ·rw[h9.2.2,hy1,Nat.gcd_one_right,Nat.div_one]
  have t0:=HT0.out.c0;have t1:=HT0.out.c1;have t2:=HT0.out.c2;have t3:=HT0.out.fr;clear hy1 hy;cases neg with
  | false=>
    have hn:nb=false:=hnb;subst hn;clear hnb
    go_enter Tryz.func120,Tryz.ntmps120
    go_wp2
    refine bodyPost_ret (v:= .agg #[.bool false,.slice a (bits x).length c,.slice a' (bits y).length c']) (by simp[results,Tryz.results120,go_sem]) rfl ?_;exact RatBAns.close HS.out ((Below.refl _ _).al _) HM.out.1 HM.out.2.1 HM.out.2.2 H1.out H2.out
  | true=>
    by_cases hx0:x=0
    ·have hn:nb=false:=by rw[hnb,hx0];rfl
     have hl0:bits x=[]:=by rw[hx0,bits_zero']
     subst hn;clear hnb hx0
     go_enter Tryz.func120,Tryz.ntmps120
     go_wp2
     refine bodyPost_ret (v:= .agg #[.bool false,.slice a 0 c,.slice a' (bits y).length c']) (by simp[results,Tryz.results120,go_sem]) rfl ?_;have hfin:=RatBAns.close HS.out ((Below.refl w.heap.size w).al (Obj.cells #[.bool false,.slice a 0 c,.slice a' (bits y).length c'] 136)) HM.out.1 HM.out.2.1 HM.out.2.2 H1.out H2.out;rw[hl0]at hfin;exact hfin
    ·have hn:nb=true:=by rw[hnb];simp;omega
     have hl0:¬ bits x=[]:=fun e=>hx0 (bits_eq_nil.1 e);have hlp:=List.length_pos_iff.2 hl0;subst hn;clear hnb hx0
     go_enter Tryz.func120,Tryz.ntmps120
     go_wp2
     refine bodyPost_ret (v:= .agg #[.bool true,.slice a (bits x).length c,.slice a' (bits y).length c']) (by simp[results,Tryz.results120,go_sem]) rfl ?_;exact RatBAns.close HS.out ((Below.refl _ _).al _) HM.out.1 HM.out.2.1 HM.out.2.2 H1.out H2.out
 ·have hlen:(((bits y).length:Int)==1)=false:=by
   rw[beq_eq_false_iff_ne];intro h9;exact hy1 ((bits_len_one hy).1 (by omega))
  have hG:0<Nat.gcd x y:=Nat.gcd_pos_of_pos_right _ hy;have hSz:∀ b,S b→b<((w.alloc (Obj.cells #[.bool false,.slice none 0 0,.slice none 0 0] 136))).heap.size:=fun b hb=>Nat.lt_of_lt_of_le (HS.out b hb) HX0.out.size;have HGC:=Lib.hid (gcdB_any x y a a' _ _ c c' _ S hSz H3.out H4.out (by omega) (by omega));have hxy0:x / Nat.gcd x y=0→x=0:=fun h9=>by
   rcases (Nat.div_eq_zero_iff).1 h9 with h9 | h9
   ·omega
   ·exact Nat.eq_zero_of_dvd_of_lt (Nat.gcd_dvd_left x y) h9
  have HXZ:=Lib.hid hxy0;have hgl:(bits (Nat.gcd x y)).length≤100000000:=Nat.le_trans (by rw[bits_len,bits_len];exact digs_len_mono (by decide) (Nat.gcd_le_right _ hy)) hm;have HM:Hid (decide ((mkRat (sgn neg x) y).num<0)=nb∧(mkRat (sgn neg x) y).num.natAbs=x / Nat.gcd x y∧(mkRat (sgn neg x) y).den=y / Nat.gcd x y):=by
   have h9:=HM0.out;rw[←hnb]at h9;exact h9
  clear hy1 hy hxy0 hnb;generalize hg:Nat.gcd x y=G at*;have HGV:=Lib.hid hg;clear hg
  go_enter Tryz.func120,Tryz.ntmps120
  go_wp2_with fail
  refine HGC.out.mono ?_;rintro e w1 ⟨ga,gc,rfl,hx1,hr1⟩;have HX1:=Lib.hid (HX0.out.tr hx1);have HG1:=Lib.hid (Rp.lt Rp.bl hr1);have HA1:=Lib.hid (Rp.bl.keep H3.out (S':=Lt w1.heap.size) (w':=w1) fun b hb=>⟨Nat.lt_of_lt_of_le (hSz b hb) hx1.size,hx1.block b (hSz b hb)⟩);have HB1:=Lib.hid (Rp.bl.keep H4.out (S':=Lt w1.heap.size) (w':=w1) fun b hb=>⟨Nat.lt_of_lt_of_le (hSz b hb) hx1.size,hx1.block b (hSz b hb)⟩);have HT1:=Lib.hid (HT0.out.ext hx1);have HD1:=Lib.hid (divmodB_any x G a ga _ _ c gc w1 HA1.out HG1.out (by omega) (by omega) hG);clear hx1 hr1 hSz HGC
  go_wp2_with fail
  refine HD1.out.mono ?_;rintro e w2 ⟨na,nc,ra,rc,rfl,hx2,hn2,_⟩;have HX2:=Lib.hid (HX1.out.tr hx2);have HT2:=Lib.hid (HT1.out.ext hx2);have HN2:=Lib.hid hn2;have HD2:=Lib.hid (divmodB_any y G a' ga _ _ c' gc w2 (Rp.ext Rp.bl HB1.out hx2) (Rp.ext Rp.bl HG1.out hx2) (by omega) (by omega) hG);clear hx2 hn2 HD1
  go_wp2_with fail
  refine HD2.out.mono ?_;rintro e w5 ⟨da,dc,ra2,rc2,rfl,hx5,hd5,_⟩;have HX5:=Lib.hid (HX2.out.tr hx5);have HT5:=HT2.out.ext hx5;have HN5:=Lib.hid (Rp.bl.keep HN2.out (S':=fun b=>(S b∨w.heap.size<b)∧b<w5.heap.size) (w':=w5) fun b hb=>⟨⟨.inr (Nat.lt_of_lt_of_le HT1.out.lt (hb.1.resolve_left id)),Nat.lt_of_lt_of_le hb.2 hx5.size⟩,hx5.block b hb.2⟩);have HD5:=Lib.hid (Rp.bl.keep hd5 (S':=fun b=>(S b∨w.heap.size<b)∧b<w5.heap.size) (w':=w5) fun b hb=>⟨⟨.inr (Nat.lt_of_lt_of_le HT2.out.lt (hb.1.resolve_left id)),hb.2⟩,rfl⟩);have t0:=HT5.c0;have t1:=HT5.c1;have t2:=HT5.c2;have t3:=HT5.fr;clear hx5 hd5 HT5 HD2 HN2;have hX0:x / G=0↔x=0:=⟨HXZ.out,fun h9=>by rw[h9];exact Nat.zero_div _⟩
  have HX0':=Lib.hid hX0;clear hX0 HXZ;have hnb:=HNB.out;generalize x / G=X at*;generalize y / G=D at*;cases neg with
  | false=>
    have hn:nb=false:=hnb;subst hn;clear hnb
    go_wp2
    refine bodyPost_ret (v:= .agg #[.bool false,.slice na (bits X).length nc,.slice da (bits D).length dc]) (by simp[results,Tryz.results120,go_sem,t0,t1,t2]) rfl ?_;exact⟨_,rfl,(((HX5.out).st (Nat.le_refl _) _).st (Nat.le_refl _) _).st (Nat.le_refl _) _,RatB.mk HM.out.1 HM.out.2.1 HM.out.2.2 (bl_st3 (w:=w) HN5.out HS.out rfl) (bl_st3 (w:=w) HD5.out HS.out rfl)⟩
  | true=>
    by_cases hx0:x=0
    ·have hn:nb=false:=by rw[hnb,hx0];rfl
     have hl0:bits X=[]:=by rw[HX0'.out.2 hx0,bits_zero']
     subst hn;clear hnb hx0
     go_wp2
     refine bodyPost_ret (v:= .agg #[.bool false,.slice na 0 nc,.slice da (bits D).length dc]) (by simp[results,Tryz.results120,go_sem,t0,t1,t2]) rfl ?_;have hfin:=RatB.mk (S:=Mo S w.heap.size _) HM.out.1 HM.out.2.1 HM.out.2.2 (bl_st3 (w:=w) (u0:= .bool false) (u1:= .slice na 0 nc) (u2:= .slice da (bits D).length dc) HN5.out HS.out rfl) (bl_st3 (w:=w) HD5.out HS.out rfl);rw[hl0]at hfin;exact⟨_,rfl,(((HX5.out).st (Nat.le_refl _) _).st (Nat.le_refl _) _).st (Nat.le_refl _) _,hfin⟩
    ·have hn:nb=true:=by rw[hnb];simp;omega
     have hl0:¬ bits X=[]:=fun e=>hx0 (HX0'.out.1 (bits_eq_nil.1 e));have hlp:=List.length_pos_iff.2 hl0;subst hn;clear hnb hx0
     go_wp2
     refine bodyPost_ret (v:= .agg #[.bool true,.slice na (bits X).length nc,.slice da (bits D).length dc]) (by simp[results,Tryz.results120,go_sem,t0,t1,t2]) rfl ?_;exact⟨_,rfl,(((HX5.out).st (Nat.le_refl _) _).st (Nat.le_refl _) _).st (Nat.le_refl _) _,RatB.mk HM.out.1 HM.out.2.1 HM.out.2.2 (bl_st3 (w:=w) HN5.out HS.out rfl) (bl_st3 (w:=w) HD5.out HS.out rfl)⟩
theorem mulBE(x y:Nat)(a a':Option Addr)(c c':Nat)(w:World)(h:Rp.bl.rel (Lt w.heap.size) w [.slice a (bits x).length c] (bits x))(h':Rp.bl.rel (Lt w.heap.size) w [.slice a' (bits y).length c'] (bits y))(hl:(bits x).length≤100000000)(hm:(bits y).length≤100000000):
  Calls Tryz.prog 124 #[.slice a (bits x).length c,.slice a' (bits y).length c'] w (BitAns (x*y) no w):=mulB_any x y a a' _ _ c c' w h h' (by omega)
theorem ofE(x y:Nat)(a a':Option Addr)(c c':Nat)(w:World)(neg:Bool)(hl:(bits x).length≤100000000)(hm:(bits y).length≤100000000)(hy:0<y)(S:Nat→Prop)(hS:∀ b,S b→b<w.heap.size)
  (k:Rp.bl.rel S w [.slice a (bits x).length c] (bits x)) (k':Rp.bl.rel S w [.slice a' (bits y).length c'] (bits y)):
  Calls Tryz.prog 120 #[.bool neg,.slice a (bits x).length c,.slice a' (bits y).length c'] w (RatBAns (mkRat (sgn neg x) y) S w):=ofR_any neg x y a a' _ _ c c' w S hS k k' hl hm hy
theorem mulRB_any(va vb:Value)(p q:Rat)(w:World)(k m:Nat)(ha:RatB (Lt w.heap.size) w va p)(hb:RatB (Lt w.heap.size) w vb q)(h1:Bd k p)(h2:Bd m q)(hk:k+m≤50000000):
  Calls Tryz.prog 62 #[va,vb] w (RatBAns (p*q) no w):=by
 have HVA:=Lib.hid ha;have HVB:=Lib.hid hb;obtain⟨na,x,d,a1,a2,c1,c2,rfl,e1,e2,e3,r1,r2⟩:=ha.open;obtain⟨nb,y,e,b1,b2,d1,d2,rfl,e4,e5,e6,r3,r4⟩:=hb.open;have hxl:=bd_lenB (e2▸h1.1) (by omega);have hdl:=bd_lenB (e3▸h1.2) (by omega);have hyl:=bd_lenB (e5▸h2.1) (by omega);have hel:=bd_lenB (e6▸h2.2) (by omega);have hde:=bd_lenB (lt_pow_mul (e3▸h1.2:d<2^k) (e6▸h2.2:e<2^m)) (by omega);have hdp:0<d*e:=Nat.mul_pos (by rw[←e3];exact Nat.pos_of_ne_zero p.den_nz) (by rw[←e6];exact Nat.pos_of_ne_zero q.den_nz);have HE:=Lib.hid (And.intro e3 e6);have R1:=Lib.hid r1;have R3:=Lib.hid r3;have hpq:=rat_mul_sgn e1 e2 e3 e4 e5 e6;obtain⟨s,hs⟩:∃ s,s=(na != nb):=⟨_,rfl⟩
 rw[←hs]at hpq;have HPQ:=Lib.hid hpq;have hxy:=bd_lenB (lt_pow_mul (e2▸h1.1:x<2^k) (e5▸h2.1:y<2^m)) (by omega);have HL:=Lib.hid (And.intro hxl (And.intro hdl (And.intro hyl (And.intro hel (And.intro hxy (And.intro hde hdp))))));clear r1 r2 r3 r4 ha hb e1 e2 e3 e4 e5 e6 h1 h2 hxl hdl hyl hel hxy hde hdp hk hpq;have hs2:(na != nb)=s:=hs.symm;have hs3:(!(na==nb))=s:=hs.symm;clear hs
 go_enter Tryz.func62,Tryz.ntmps62
 go_wp2
 obtain⟨W,hW,ka,kb,kc,kf,hxw,hwz⟩:=box3 w #[.bool na,.slice a1 (bits x).length c1,.slice a2 (bits d).length c2] #[.bool nb,.slice b1 (bits y).length d1,.slice b2 (bits e).length d2] #[.bool false,.slice none 0 0,.slice none 0 0] 136 136 136;rw[←hW];have HX0:=Lib.hid hxw.dr;have K0:Six w.heap.size (.bool na) (.slice a1 (bits x).length c1) (.slice a2 (bits d).length c2) (.bool nb) (.slice b1 (bits y).length d1) (.slice b2 (bits e).length d2) W.drew:=⟨⟨ka 0,ka 1,ka 2,kb 0,kb 1,kb 2⟩,by show _<W.heap.size;omega⟩
 have HT0:Hid (Thr (w.heap.size+1+1) (.bool false) (.slice none 0 0) (.slice none 0 0) W.drew):=Thr.ext (w:=W) ⟨kc 0,kc 1,kc 2,kf,hwz⟩ (Below.refl _ _).dr;clear hW ka kb kc kf hxw
 go_region_held3 (fun w'=>w'.cell? ⟨w.heap.size,0,none⟩=some (.bool na)∧w'.cell? ⟨w.heap.size,1,none⟩=some (.slice a1 (bits x).length c1)∧w'.cell? ⟨w.heap.size,2,none⟩=some (.slice a2 (bits d).length c2)∧w'.cell? ⟨w.heap.size+1,0,none⟩=some (.bool nb)∧w'.cell? ⟨w.heap.size+1,1,none⟩=some (.slice b1 (bits y).length d1)∧w'.cell? ⟨w.heap.size+1,2,none⟩=some (.slice b2 (bits e).length d2)) (first | exact K6.1 | exact(((K6.set (by omega) (by omega)).set (by omega) (by omega)).set (by omega) (by omega)).1 | exact K5.1 | exact(((K5.set (by omega) (by omega)).set (by omega) (by omega)).set (by omega) (by omega)).1 | exact K4.1 | exact K3.1 | exact K2.1 | exact K1.1 | exact K0.1)
  (first
    | (go_at_call_of 124 (Value.slice a1 (bits x).length c1);refine(mulBE x y a1 b1 c1 d1 _ (Rp.ext Rp.bl R1.out HX0.out) (Rp.ext Rp.bl R3.out HX0.out) HL.out.1 HL.out.2.2.1).mono ?_;rintro e1 w1 ⟨p1,r1,rfl,hx1,hr1⟩;have HX1:=Lib.hid (HX0.out.tr hx1);have HR1:=Lib.hid (Rp.bl.keep hr1 (S':=(fun b=>w.heap.size+1+1<b∧b<w1.heap.size)) (w':=w1) fun b hb=>⟨⟨Nat.lt_of_lt_of_le HT0.out.lt (hb.1.resolve_left id),hb.2⟩,rfl⟩);have HT1:=Lib.hid (HT0.out.ext hx1);have K1:=K0.ext hx1;clear hx1 hr1)
    | (go_at_call_of 125 (Value.agg #[Value.bool na,Value.slice a1 (bits x).length c1,Value.slice a2 (bits d).length c2]);refine(lowE w _ HVA.out HX1.out HE.out.1).mono ?_;rintro e2 w2 ⟨p2,r2,rfl,hx2,hr2⟩;have HX2:=Lib.hid (HX1.out.tr hx2);have HR2:=Lib.hid (Rp.lt Rp.bl hr2);have HP2:=Lib.hid (Rp.bl.keep HR1.out (S':=(fun b=>w.heap.size+1+1<b∧b<w2.heap.size)) (w':=w2) fun b hb=>⟨⟨hb.1,Nat.lt_of_lt_of_le hb.2 hx2.size⟩,hx2.block b hb.2⟩);have HT2:=Lib.hid (HT1.out.ext hx2);have K2:=K1.ext hx2;clear hx2 hr2)
    | (go_at_call_of 125 (Value.agg #[Value.bool nb,Value.slice b1 (bits y).length d1,Value.slice b2 (bits e).length d2]);refine(lowE w _ HVB.out HX2.out HE.out.2).mono ?_;rintro e3 w3 ⟨p3,r3,rfl,hx3,hr3⟩;have HX3:=Lib.hid (HX2.out.tr hx3);have HR3:=Lib.hid (Rp.lt Rp.bl hr3);have HP3:=Lib.hid (Rp.bl.keep HP2.out (S':=(fun b=>w.heap.size+1+1<b∧b<w3.heap.size)) (w':=w3) fun b hb=>⟨⟨hb.1,Nat.lt_of_lt_of_le hb.2 hx3.size⟩,hx3.block b hb.2⟩);have HQ3:=Lib.hid (Rp.ext Rp.bl HR2.out hx3);have HT3:=Lib.hid (HT2.out.ext hx3);have K3:=K2.ext hx3;clear hx3 hr3)
    | (go_at_call_of 124 (Value.slice p2 (bits d).length r2);refine(mulBE d e p2 p3 r2 r3 w3 HQ3.out HR3.out HL.out.2.1 HL.out.2.2.2.1).mono ?_;rintro e4 w4 ⟨p4,r4,rfl,hx4,hr4⟩;have HX4:=Lib.hid (HX3.out.tr hx4);have HR4:=Lib.hid (Rp.bl.keep hr4 (S':=(fun b=>w.heap.size+1+1<b∧b<w4.heap.size)) (w':=w4) fun b hb=>⟨⟨Nat.lt_of_lt_of_le HT3.out.lt (hb.1.resolve_left id),hb.2⟩,rfl⟩);have HP4:=Lib.hid (Rp.bl.keep HP3.out (S':=(fun b=>w.heap.size+1+1<b∧b<w4.heap.size)) (w':=w4) fun b hb=>⟨⟨hb.1,Nat.lt_of_lt_of_le hb.2 hx4.size⟩,hx4.block b hb.2⟩);have HT4:=Lib.hid (HT3.out.ext hx4);have K4:=K3.ext hx4;clear hx4 hr4)
    | (go_at_call 120;refine(ofE (x*y) (d*e) p1 p4 r1 r4 w4 s HL.out.2.2.2.2.1 HL.out.2.2.2.2.2.1 HL.out.2.2.2.2.2.2 (fun b=>w.heap.size+1+1<b∧b<w4.heap.size) (fun _ hb=>hb.2) HP4.out HR4.out).mono ?_;rintro e5 w5 ⟨v5,rfl,hx5,hv5⟩;obtain⟨g0,gx,gd,g1,g2,g3,g4,rfl,q1,q2,q3,q4,q5⟩:=hv5.open;have HX5:=Lib.hid (HX4.out.tr hx5);have HQ4:=Lib.hid (And.intro q1 (And.intro q2 q3));have HQ5:=Lib.hid (And.intro q4 q5);have HT5:=HT4.out.ext hx5;have t0:=HT5.c0;have t1:=HT5.c1;have t2:=HT5.c2;have t3:=HT5.fr;have t4:=HT5.lt;have K5:=K4.ext hx5;clear hx5 hv5 q1 q2 q3 q4 q5 HT5))
 go_wp2
 refine bodyPost_ret (v:= .agg #[.bool g0,.slice g1 (bits gx).length g3,.slice g2 (bits gd).length g4]) (by simp[results,Tryz.results62,go_sem,t0,t1,t2]) rfl ?_;rw[HPQ.out];have hz:w.heap.size+1+1<w4.heap.size:=HT4.out.lt;refine⟨_,rfl,(((HX5.out).st (by show w.heap.size≤w.heap.size+1+1;omega) _).st (by show w.heap.size≤w.heap.size+1+1;omega) _).st (by show w.heap.size≤w.heap.size+1+1;omega) _,RatB.mk HQ4.out.1 HQ4.out.2.1 HQ4.out.2.2 (Rp.bl.keep HQ5.out.1 ?_) (Rp.bl.keep HQ5.out.2 ?_)⟩
 all_goals
  intro b hb;have h1:w.heap.size+1+1<b:=by
   rcases hb.1 with h9 | h9
   ·exact h9.1
   ·omega
  have h2:b<w5.heap.size:=hb.2;exact⟨⟨.inr (by omega),by simp[World.setCell];omega⟩,by rw[far_cell (by omega),far_cell (by omega),far_cell (by omega)]⟩
theorem addRB_any(va vb:Value)(p q:Rat)(w:World)(k m:Nat)(ha:RatB (Lt w.heap.size) w va p)(hb:RatB (Lt w.heap.size) w vb q)(h1:Bd k p)(h2:Bd m q)(hk:k+m≤50000000):
  Calls Tryz.prog 61 #[va,vb] w (RatBAns (p+q) no w):=by
 have HVA:=Lib.hid ha;have HVB:=Lib.hid hb;obtain⟨na,x,d,a1,a2,c1,c2,rfl,e1,e2,e3,r1,r2⟩:=ha.open;obtain⟨nb,y,e,b1,b2,d1,d2,rfl,e4,e5,e6,r3,r4⟩:=hb.open;have hxl:=bd_lenB (e2▸h1.1) (by omega);have hdl:=bd_lenB (e3▸h1.2) (by omega);have hyl:=bd_lenB (e5▸h2.1) (by omega);have hel:=bd_lenB (e6▸h2.2) (by omega);have hde:=bd_lenB (lt_pow_mul (e3▸h1.2:d<2^k) (e6▸h2.2:e<2^m)) (by omega);have hdp:0<d*e:=Nat.mul_pos (by rw[←e3];exact Nat.pos_of_ne_zero p.den_nz) (by rw[←e6];exact Nat.pos_of_ne_zero q.den_nz);have HE:=Lib.hid (And.intro e3 e6);have R1:=Lib.hid r1;have R3:=Lib.hid r3;have HSUM:=Lib.hid (rat_add_sum e1 e2 e3 e4 e5 e6);have hxe:=bd_lenB (lt_pow_mul (e2▸h1.1:x<2^k) (e6▸h2.2:e<2^m)) (by omega);have hyd:=bd_lenB (lt_pow_mul (e5▸h2.1:y<2^m) (e3▸h1.2:d<2^k)) (by omega);have hsl:(bits (sumS na (x*e) nb (y*d)).2).length≤100000000:=by
  refine bd_lenB (k:=k+m+1) (Nat.lt_of_le_of_lt (sumS_le _ _ _ _) ?_) (by omega);have g1:=lt_pow_mul (e2▸h1.1:x<2^k) (e6▸h2.2:e<2^m);have g2:=lt_pow_mul (e5▸h2.1:y<2^m) (e3▸h1.2:d<2^k);rw[Nat.add_comm m k]at g2;rw[Nat.pow_succ];omega
 have HL:=Lib.hid (And.intro hxl (And.intro hdl (And.intro hyl (And.intro hel (And.intro hxe (And.intro hyd (And.intro hde (And.intro hsl hdp))))))));clear r1 r2 r3 r4 ha hb e1 e2 e3 e4 e5 e6 h1 h2 hxl hdl hyl hel hxe hyd hde hsl hdp hk
 go_enter Tryz.func61,Tryz.ntmps61
 go_wp2
 go_upto_region 1 with (fail)
 go_cut [5,6]from 7 (fun s5 s6 wc=>∃ (a:Option Addr) (c:Nat),s5= .bool (sumS na (x*e) nb (y*d)).1∧s6= .slice a (bits (sumS na (x*e) nb (y*d)).2).length c∧Hid (Rp.bl.rel (fun b=>w.heap.size+1+1<b∧b<wc.heap.size) wc [s6] (bits (sumS na (x*e) nb (y*d)).2))∧
  Hid (Ext (((w.alloc (Obj.cells #[.bool na,.slice a1 (bits x).length c1,.slice a2 (bits d).length c2] 136)).alloc (Obj.cells #[.bool nb,.slice b1 (bits y).length d1,.slice b2 (bits e).length d2] 136)).alloc (Obj.cells #[.bool false,.slice none 0 0,.slice none 0 0] 136)) wc))
 case first=>
  go_wp2
  obtain⟨W,hW,ka,kb,kc,kf,hxw,hwz⟩:=box3 w #[.bool na,.slice a1 (bits x).length c1,.slice a2 (bits d).length c2] #[.bool nb,.slice b1 (bits y).length d1,.slice b2 (bits e).length d2] #[.bool false,.slice none 0 0,.slice none 0 0] 136 136 136;rw[←hW];have HX0:=Lib.hid hxw.dr;have HW:=Lib.hid hW;have HY0:Hid (Ext W W.drew):=(Below.refl _ _).dr;have K0:Six w.heap.size (.bool na) (.slice a1 (bits x).length c1) (.slice a2 (bits d).length c2) (.bool nb) (.slice b1 (bits y).length d1) (.slice b2 (bits e).length d2) W.drew:=⟨⟨ka 0,ka 1,ka 2,kb 0,kb 1,kb 2⟩,by show _<W.heap.size;omega⟩
  clear hW ka kb kc kf hxw
  go_region_held3 (fun w'=>w'.cell? ⟨w.heap.size,0,none⟩=some (.bool na)∧w'.cell? ⟨w.heap.size,1,none⟩=some (.slice a1 (bits x).length c1)∧w'.cell? ⟨w.heap.size,2,none⟩=some (.slice a2 (bits d).length c2)∧w'.cell? ⟨w.heap.size+1,0,none⟩=some (.bool nb)∧w'.cell? ⟨w.heap.size+1,1,none⟩=some (.slice b1 (bits y).length d1)∧w'.cell? ⟨w.heap.size+1,2,none⟩=some (.slice b2 (bits e).length d2)) (first | exact K5.1 | exact K4.1 | exact K3.1 | exact K2.1 | exact K1.1 | exact K0.1)
   (first
     | (go_at_call_of 125 (Value.agg #[Value.bool nb,Value.slice b1 (bits y).length d1,Value.slice b2 (bits e).length d2]);refine(lowE w _ HVB.out HX0.out HE.out.2).mono ?_;rintro e1 w1 ⟨p1,r1,rfl,hx1,hr1⟩;have HX1:=Lib.hid (HX0.out.tr hx1);have HY1:=Lib.hid (HY0.out.tr hx1);have HR1:=Lib.hid (Rp.lt Rp.bl hr1);have K1:=K0.ext hx1;clear hx1 hr1)
     | (go_at_call_of 124 (Value.slice a1 (bits x).length c1);refine(mulBE x e a1 p1 c1 r1 w1 (Rp.ext Rp.bl R1.out HX1.out) HR1.out HL.out.1 HL.out.2.2.2.1).mono ?_;rintro e2 w2 ⟨p2,r2,rfl,hx2,hr2⟩;have HX2:=Lib.hid (HX1.out.tr hx2);have HY2:=Lib.hid (HY1.out.tr hx2);have HR2:=Lib.hid (Rp.lt Rp.bl hr2);have K2:=K1.ext hx2;clear hx2 hr2)
     | (go_at_call_of 125 (Value.agg #[Value.bool na,Value.slice a1 (bits x).length c1,Value.slice a2 (bits d).length c2]);refine(lowE w _ HVA.out HX2.out HE.out.1).mono ?_;rintro e3 w3 ⟨p3,r3,rfl,hx3,hr3⟩;have HX3:=Lib.hid (HX2.out.tr hx3);have HY3:=Lib.hid (HY2.out.tr hx3);have HR3:=Lib.hid (Rp.lt Rp.bl hr3);have HP3:=Lib.hid (Rp.ext Rp.bl HR2.out hx3);have K3:=K2.ext hx3;clear hx3 hr3)
     | (go_at_call_of 124 (Value.slice b1 (bits y).length d1);refine(mulBE y d b1 p3 d1 r3 w3 (Rp.ext Rp.bl R3.out HX3.out) HR3.out HL.out.2.2.1 HL.out.2.1).mono ?_;rintro e4 w4 ⟨p4,r4,rfl,hx4,hr4⟩;have HX4:=Lib.hid (HX3.out.tr hx4);have HY4:=Lib.hid (HY3.out.tr hx4);have HR4:=Lib.hid (Rp.lt Rp.bl hr4);have HP4:=Lib.hid (Rp.ext Rp.bl HP3.out hx4);have K4:=K3.ext hx4;clear hx4 hr4)
     | (go_at_call 123;refine(sumB_any na nb (x*e) (y*d) p2 p4 r2 r4 w4 HP4.out HR4.out HL.out.2.2.2.2.1 HL.out.2.2.2.2.2.1).mono ?_;rintro e5 w5 ⟨p5,r5,rfl,hx5,hr5⟩;have HX5:=Lib.hid (HX4.out.tr hx5);have HR5:=Lib.hid (Rp.bl.keep hr5 (S':=(fun b=>w.heap.size+1+1<b∧b<w5.heap.size)) (w':=w5) fun b hb=>⟨⟨Nat.lt_of_lt_of_le (Nat.lt_of_lt_of_le hwz HY4.out.size) (hb.1.resolve_left id),hb.2⟩,rfl⟩);have HY5:=Lib.hid (HY4.out.tr hx5);have K5:=K4.ext hx5;clear hx5 hr5))
  go_wp2
  go_meet
  exact⟨p5,r5,rfl,rfl,HR5.out,by rw[←HW.out];exact HY5.out⟩
 case rest=>
  obtain⟨sa,sc,rfl,rfl,HS,HXC⟩:=hcut;obtain⟨W,hW,ka,kb,kc,kf,hxw,hwz⟩:=box3 w #[.bool na,.slice a1 (bits x).length c1,.slice a2 (bits d).length c2] #[.bool nb,.slice b1 (bits y).length d1,.slice b2 (bits e).length d2] #[.bool false,.slice none 0 0,.slice none 0 0] 136 136 136;rw[←hW]at HXC;have HX0:=Lib.hid (hxw.tr HXC.out).dr;have K0:Six w.heap.size (.bool na) (.slice a1 (bits x).length c1) (.slice a2 (bits d).length c2) (.bool nb) (.slice b1 (bits y).length d1) (.slice b2 (bits e).length d2) wc.drew:=Six.ext ⟨⟨ka 0,ka 1,ka 2,kb 0,kb 1,kb 2⟩,by show _<W.heap.size;omega⟩ (HXC.out.dr);have HT0:Hid (Thr (w.heap.size+1+1) (.bool false) (.slice none 0 0) (.slice none 0 0) wc.drew):=Thr.ext (w:=W) ⟨kc 0,kc 1,kc 2,kf,hwz⟩ HXC.out.dr;have HS0:Hid (Rp.bl.rel (fun b=>w.heap.size+1+1<b∧b<wc.drew.heap.size) wc.drew [.slice sa (bits (sumS na (x*e) nb (y*d)).2).length sc] (bits (sumS na (x*e) nb (y*d)).2)):=Rp.bl.keep HS.out fun _ hb=>⟨hb,rfl⟩
  clear hW ka kb kc kf hxw;generalize hsv:sumS na (x*e) nb (y*d)=sv at*;clear hsv
  go_wp2
  go_region_held3 (fun w'=>w'.cell? ⟨w.heap.size,0,none⟩=some (.bool na)∧w'.cell? ⟨w.heap.size,1,none⟩=some (.slice a1 (bits x).length c1)∧w'.cell? ⟨w.heap.size,2,none⟩=some (.slice a2 (bits d).length c2)∧w'.cell? ⟨w.heap.size+1,0,none⟩=some (.bool nb)∧w'.cell? ⟨w.heap.size+1,1,none⟩=some (.slice b1 (bits y).length d1)∧w'.cell? ⟨w.heap.size+1,2,none⟩=some (.slice b2 (bits e).length d2)) (first | exact K4.1 | exact(((K4.set (by omega) (by omega)).set (by omega) (by omega)).set (by omega) (by omega)).1 | exact K5.1 | exact(((K5.set (by omega) (by omega)).set (by omega) (by omega)).set (by omega) (by omega)).1 | exact K4.1 | exact K3.1 | exact K2.1 | exact K1.1 | exact K0.1)
   (first
     | (go_at_call_of 125 (Value.agg #[Value.bool na,Value.slice a1 (bits x).length c1,Value.slice a2 (bits d).length c2]);refine(lowE w _ HVA.out HX0.out HE.out.1).mono ?_;rintro e1 w1 ⟨p1,r1,rfl,hx1,hr1⟩;have HX1:=Lib.hid (HX0.out.tr hx1);have HR1:=Lib.hid (Rp.lt Rp.bl hr1);have HS1:=Lib.hid (Rp.bl.keep HS0.out (S':=(fun b=>w.heap.size+1+1<b∧b<w1.heap.size)) (w':=w1) fun b hb=>⟨⟨hb.1,Nat.lt_of_lt_of_le hb.2 hx1.size⟩,hx1.block b hb.2⟩);have HT1:=Lib.hid (HT0.out.ext hx1);have K1:=K0.ext hx1;clear hx1 hr1)
     | (go_at_call_of 125 (Value.agg #[Value.bool nb,Value.slice b1 (bits y).length d1,Value.slice b2 (bits e).length d2]);refine(lowE w _ HVB.out HX1.out HE.out.2).mono ?_;rintro e2 w2 ⟨p2,r2,rfl,hx2,hr2⟩;have HX2:=Lib.hid (HX1.out.tr hx2);have HR2:=Lib.hid (Rp.lt Rp.bl hr2);have HP2:=Lib.hid (Rp.ext Rp.bl HR1.out hx2);have HS2:=Lib.hid (Rp.bl.keep HS1.out (S':=(fun b=>w.heap.size+1+1<b∧b<w2.heap.size)) (w':=w2) fun b hb=>⟨⟨hb.1,Nat.lt_of_lt_of_le hb.2 hx2.size⟩,hx2.block b hb.2⟩);have HT2:=Lib.hid (HT1.out.ext hx2);have K2:=K1.ext hx2;clear hx2 hr2)
     | (go_at_call 124;refine(mulBE d e p1 p2 r1 r2 w2 HP2.out HR2.out HL.out.2.1 HL.out.2.2.2.1).mono ?_;rintro e3 w3 ⟨p3,r3,rfl,hx3,hr3⟩;have HX3:=Lib.hid (HX2.out.tr hx3);have HR3:=Lib.hid (Rp.bl.keep hr3 (S':=(fun b=>w.heap.size+1+1<b∧b<w3.heap.size)) (w':=w3) fun b hb=>⟨⟨Nat.lt_of_lt_of_le HT2.out.lt (hb.1.resolve_left id),hb.2⟩,rfl⟩);have HS3:=Lib.hid (Rp.bl.keep HS2.out (S':=(fun b=>w.heap.size+1+1<b∧b<w3.heap.size)) (w':=w3) fun b hb=>⟨⟨hb.1,Nat.lt_of_lt_of_le hb.2 hx3.size⟩,hx3.block b hb.2⟩);have HT3:=Lib.hid (HT2.out.ext hx3);have K3:=K2.ext hx3;clear hx3 hr3)
     | (go_at_call 120;refine(ofE sv.2 (d*e) sa p3 sc r3 w3 sv.1 HL.out.2.2.2.2.2.2.2.1 HL.out.2.2.2.2.2.2.1 HL.out.2.2.2.2.2.2.2.2 (fun b=>w.heap.size+1+1<b∧b<w3.heap.size) (fun _ hb=>hb.2) HS3.out HR3.out).mono ?_;rintro e4 w4 ⟨v4,rfl,hx4,hv4⟩;obtain⟨g0,gx,gd,g1,g2,g3,g4,rfl,q1,q2,q3,q4,q5⟩:=hv4.open;have HX4:=Lib.hid (HX3.out.tr hx4);have HQ4:=Lib.hid (And.intro q1 (And.intro q2 q3));have HQ5:=Lib.hid (And.intro q4 q5);have HT4:=HT3.out.ext hx4;have t0:=HT4.c0;have t1:=HT4.c1;have t2:=HT4.c2;have t3:=HT4.fr;have t4:=HT4.lt;have K4:=K3.ext hx4;clear hx4 hv4 q1 q2 q3 q4 q5 HT4))
  go_wp2
  refine bodyPost_ret (v:= .agg #[.bool g0,.slice g1 (bits gx).length g3,.slice g2 (bits gd).length g4]) (by simp[results,Tryz.results61,go_sem,t0,t1,t2]) rfl ?_;rw[HSUM.out];have hz:w.heap.size+1+1<w3.heap.size:=HT3.out.lt;refine⟨_,rfl,(((HX4.out).st (by show w.heap.size≤w.heap.size+1+1;omega) _).st (by show w.heap.size≤w.heap.size+1+1;omega) _).st (by show w.heap.size≤w.heap.size+1+1;omega) _,RatB.mk HQ4.out.1 HQ4.out.2.1 HQ4.out.2.2 (Rp.bl.keep HQ5.out.1 ?_) (Rp.bl.keep HQ5.out.2 ?_)⟩
  all_goals
   intro b hb;have h1:w.heap.size+1+1<b:=by
    rcases hb.1 with h9 | h9
    ·exact h9.1
    ·omega
   have h2:b<w4.heap.size:=hb.2;exact⟨⟨.inr (by omega),by simp[World.setCell];omega⟩,by rw[far_cell (by omega),far_cell (by omega),far_cell (by omega)]⟩
theorem lowE1{v:Value}{q:Rat}{d:Nat}(S:Nat→Prop)(w0 w:World)(h:RatB S w0 v q)(hS:∀ b,S b→b<w0.heap.size)(hx:Ext w0 w)(hd:q.den=d):Calls Tryz.prog 125 #[v] w (BitAns d S w):=by
 subst hd;exact lowB_any v q w _ (fun b hb=>Nat.lt_of_lt_of_le (hS b hb) hx.size) (h.keep fun b hb=>⟨hb,hx.block b (hS b hb)⟩)
theorem int_ratB(n:Int){nb:Bool}(h:decide (n<0)=nb):decide ((n:Rat).num<0)=nb∧(n:Rat).num.natAbs=n.natAbs∧(n:Rat).den=1:=by
 rw[Rat.num_intCast,Rat.den_intCast];exact⟨h,rfl,rfl⟩
theorem intB_any(n:Int)(w:World)(h0: -9223372036854775808≤n)(h1:n≤9223372036854775807):Calls Tryz.prog 60 #[.int .i64 n] w (RatBAns n no w):=by
 have HX0:Hid (Ext w (w.alloc (Obj.cells #[.bool false,.slice none 0 0,.slice none 0 0] 136))):=(Below.refl _ _).al _;have HT0:Hid (Thr w.heap.size (.bool false) (.slice none 0 0) (.slice none 0 0) (w.alloc (Obj.cells #[.bool false,.slice none 0 0,.slice none 0 0] 136))):=⟨by rw[cell_new];rfl,by rw[cell_new];rfl,by rw[cell_new];rfl,fun o=>froz_new _ _ _ _,by simp⟩
 by_cases hn:n<0
 ·have HE:=Lib.hid (int_ratB n (decide_eq_true hn));obtain⟨m,hm⟩:∃ m:Nat,(m:Int)= -(n+1):=⟨(-(n+1)).toNat,by omega⟩
  have hm2:n.natAbs=m+1:=by omega
  rw[hm2]at HE;have hm3:m<9223372036854775808:=by omega
  have hneg: -(n+1)=(m:Int):=hm.symm;have HW1:=Lib.hid (wordB_any m (w.alloc (Obj.cells #[.bool false,.slice none 0 0,.slice none 0 0] 136)) (by omega));clear hm hm2
  go_enter Tryz.func60,Tryz.ntmps60
  go_wp2_with fail
  refine HW1.out.mono ?_;rintro e1 w1 ⟨p1,r1,rfl,hx1,hr1⟩;have HX1:=Lib.hid (HX0.out.tr hx1);have HT1:=Lib.hid (HT0.out.ext hx1);have HR1:=Lib.hid (Rp.lt Rp.bl hr1);clear hx1 hr1
  go_wp2_with fail
  refine(wordB_any 1 w1 (by omega)).mono ?_;rintro e2 w2 ⟨p2,r2,rfl,hx2,hr2⟩;have HX2:=Lib.hid (HX1.out.tr hx2);have HT2:=Lib.hid (HT1.out.ext hx2);have HR2:=Lib.hid (Rp.lt Rp.bl hr2);have HP2:=Lib.hid (Rp.ext Rp.bl HR1.out hx2);have hl1:(bits m).length≤500000000:=Nat.le_trans (bits_len_le (k:=64) (by omega)) (by decide);have hl2:(bits 1).length≤500000000:=Nat.le_trans (bits_len_le (k:=64) (by decide)) (by decide);clear hx2 hr2
  go_wp2_with fail
  refine(addB_any m 1 p1 p2 _ _ r1 r2 w2 HP2.out HR2.out hl1 hl2).mono ?_;rintro e3 w3 ⟨p3,r3,rfl,hx3,hr3⟩;have HX3:=Lib.hid (HX2.out.tr hx3);have HT3:=Lib.hid (HT2.out.ext hx3);have HR3:=Lib.hid (Rp.bl.keep hr3 (S':=(fun b=>(no b∨w.heap.size<b)∧b<w3.heap.size)) (w':=w3) fun b hb=>⟨⟨.inr (Nat.lt_of_lt_of_le HT2.out.lt (hb.1.resolve_left id)),hb.2⟩,rfl⟩);clear hx3 hr3
  go_wp2_with fail
  refine(wordB_any 1 w3 (by omega)).mono ?_;rintro e4 w4 ⟨p4,r4,rfl,hx4,hr4⟩;have HX4:=Lib.hid (HX3.out.tr hx4);have HT9:=HT3.out.ext hx4;have HB9:=Lib.hid (Rp.bl.keep hr4 (S':=(fun b=>(no b∨w.heap.size<b)∧b<w4.heap.size)) (w':=w4) fun b hb=>⟨⟨.inr (Nat.lt_of_lt_of_le HT3.out.lt (hb.1.resolve_left id)),hb.2⟩,rfl⟩);have HA9:=Lib.hid (Rp.bl.keep HR3.out (S':=(fun b=>(no b∨w.heap.size<b)∧b<w4.heap.size)) (w':=w4) fun b hb=>⟨⟨hb.1,Nat.lt_of_lt_of_le hb.2 hx4.size⟩,hx4.block b hb.2⟩);clear hx4 hr4;have t0:=HT9.c0;have t1:=HT9.c1;have t2:=HT9.c2;have t3:=HT9.fr;have t4:=HT9.lt;clear HT9
  go_wp2
  refine bodyPost_ret (v:= .agg #[.bool true,.slice p3 (bits (m+1)).length r3,.slice p4 (bits 1).length r4]) (by simp[results,Tryz.results60,go_sem,t0,t1,t2]) rfl ?_;exact⟨_,rfl,(((HX4.out).st (Nat.le_refl _) _).st (Nat.le_refl _) _).st (Nat.le_refl _) _,RatB.mk HE.out.1 HE.out.2.1 HE.out.2.2 (bl_st3 (S:=no) (w:=w) HA9.out (fun _ h=>h.elim) rfl) (bl_st3 (S:=no) (w:=w) HB9.out (fun _ h=>h.elim) rfl)⟩
 ·have HE:=Lib.hid (int_ratB n (decide_eq_false hn));obtain⟨m,rfl⟩:=Int.eq_ofNat_of_zero_le (by omega:0≤n);rw[Int.natAbs_natCast]at HE;have HW1:=Lib.hid (wordB_any m (w.alloc (Obj.cells #[.bool false,.slice none 0 0,.slice none 0 0] 136)) (by omega))
  go_enter Tryz.func60,Tryz.ntmps60
  go_wp2_with fail
  refine HW1.out.mono ?_;rintro e3 w3 ⟨p3,r3,rfl,hx3,hr3⟩;have HX3:=Lib.hid (HX0.out.tr hx3);have HT3:=Lib.hid (HT0.out.ext hx3);have HR3:=Lib.hid (Rp.bl.keep hr3 (S':=(fun b=>(no b∨w.heap.size<b)∧b<w3.heap.size)) (w':=w3) fun b hb=>⟨⟨.inr (Nat.lt_of_lt_of_le HT0.out.lt (hb.1.resolve_left id)),hb.2⟩,rfl⟩);clear hx3 hr3
  go_wp2_with fail
  refine(wordB_any 1 w3 (by omega)).mono ?_;rintro e4 w4 ⟨p4,r4,rfl,hx4,hr4⟩;have HX4:=Lib.hid (HX3.out.tr hx4);have HT9:=HT3.out.ext hx4;have HB9:=Lib.hid (Rp.bl.keep hr4 (S':=(fun b=>(no b∨w.heap.size<b)∧b<w4.heap.size)) (w':=w4) fun b hb=>⟨⟨.inr (Nat.lt_of_lt_of_le HT3.out.lt (hb.1.resolve_left id)),hb.2⟩,rfl⟩);have HA9:=Lib.hid (Rp.bl.keep HR3.out (S':=(fun b=>(no b∨w.heap.size<b)∧b<w4.heap.size)) (w':=w4) fun b hb=>⟨⟨hb.1,Nat.lt_of_lt_of_le hb.2 hx4.size⟩,hx4.block b hb.2⟩);clear hx4 hr4;have t0:=HT9.c0;have t1:=HT9.c1;have t2:=HT9.c2;have t3:=HT9.fr;have t4:=HT9.lt;clear HT9
  go_wp2
  refine bodyPost_ret (v:= .agg #[.bool false,.slice p3 (bits m).length r3,.slice p4 (bits 1).length r4]) (by simp[results,Tryz.results60,go_sem,t0,t1,t2]) rfl ?_;exact⟨_,rfl,(((HX4.out).st (Nat.le_refl _) _).st (Nat.le_refl _) _).st (Nat.le_refl _) _,RatB.mk HE.out.1 HE.out.2.1 HE.out.2.2 (bl_st3 (S:=no) (w:=w) HA9.out (fun _ h=>h.elim) rfl) (bl_st3 (S:=no) (w:=w) HB9.out (fun _ h=>h.elim) rfl)⟩
theorem negB_any(va:Value)(p:Rat)(w:World)(S:Nat→Prop)(hS:∀ b,S b→b<w.heap.size)(ha:RatB S w va p):
  Calls Tryz.prog 117 #[va] w (RatBAns (-p) S w):=by
 have HVA:=Lib.hid ha;obtain⟨na,x,d,a1,a2,c1,c2,rfl,e1,e2,e3,r1,r2⟩:=ha.open;have HE:=Lib.hid e3;have R1:=Lib.hid r1;have HS:=Lib.hid hS;have HM0:Hid ((-p).num.natAbs=x∧(-p).den=d):=⟨by rw[Rat.neg_num,Int.natAbs_neg];exact e2,by rw[Rat.neg_den];exact e3⟩
 have HB:=Lib.hid e1;have HX9:=Lib.hid e2;clear r1 r2 ha e1 e2 e3 hS;by_cases h0:x=0
 ·have hna:na=false:=by rw[←HB.out];exact decide_eq_false (by have:=HX9.out;omega)
  subst hna;have hl0:bits x=[]:=by rw[h0,bits_zero']
  have HM:Hid (decide ((-p).num<0)=false∧(-p).num.natAbs=x∧(-p).den=d):=⟨by rw[Rat.neg_num];exact decide_eq_false (by have:=HX9.out;omega),HM0.out⟩
  have HL:=Lib.hid hl0;have hln:(bits x).length=0:=by rw[hl0];rfl
  rw[hln]at HVA ⊢;have HLN:=Lib.hid hln;clear h0 hl0 hln
  go_enter Tryz.func117,Tryz.ntmps117
  go_wp2
  obtain⟨W,hW,ka,kc,kf,hxw,hwz⟩:=box2 w #[.bool false,.slice a1 0 c1,.slice a2 (bits d).length c2] #[.bool false,.slice none 0 0,.slice none 0 0] 136 136;rw[←hW];have HX0:=Lib.hid hxw.dr;have K0:Tri w.heap.size (.bool false) (.slice a1 0 c1) (.slice a2 (bits d).length c2) W.drew:=⟨⟨ka 0,ka 1,ka 2⟩,by show _<W.heap.size;omega⟩
  have HT0:Hid (Thr (w.heap.size+1) (.bool false) (.slice none 0 0) (.slice none 0 0) W.drew):=Thr.ext (w:=W) ⟨kc 0,kc 1,kc 2,kf,hwz⟩ (Below.refl _ _).dr;clear hW ka kc kf hxw
  go_region_held3 (fun w'=>w'.cell? ⟨w.heap.size,0,none⟩=some (.bool false)∧w'.cell? ⟨w.heap.size,1,none⟩=some (.slice a1 0 c1)∧w'.cell? ⟨w.heap.size,2,none⟩=some (.slice a2 (bits d).length c2)) (first | exact K3.1 | exact K2.1 | exact(((K2.set (by omega)).set (by omega)).set (by omega)).1 | exact K1.1 | exact(((K1.set (by omega)).set (by omega)).set (by omega)).1 | exact K0.1)
   (first
     | (go_at_call 125;refine(lowE1 S w _ HVA.out HS.out HX0.out HE.out).mono ?_;rintro e1 w1 ⟨p1,r1,rfl,hx1,hr1⟩;have HX1:=Lib.hid (HX0.out.tr hx1);have HR1:=Lib.hid (Rp.bl.keep hr1 (S':=fun b=>(S b∨w.heap.size+1<b)∧b<w1.heap.size) (w':=w1) fun b hb=>⟨⟨hb.1.imp id (fun h9=>Nat.lt_of_lt_of_le HT0.out.lt h9),hb.2⟩,rfl⟩);have HT1:=HT0.out.ext hx1;have t0:=HT1.c0;have t1:=HT1.c1;have t2:=HT1.c2;have t3:=HT1.fr;have t4:=HT1.lt;have K1:=K0.ext hx1;clear hx1 hr1 HT1))
  all_goals go_wp2
  all_goals
   refine bodyPost_ret (v:= .agg #[.bool false,.slice a1 (bits x).length c1,.slice p1 (bits d).length r1]) (by simp[results,Tryz.results117,go_sem,t0,t1,t2,HLN.out]) rfl ?_;refine⟨_,rfl,(((HX1.out).st (by show w.heap.size≤w.heap.size+1;omega) _).st (by show w.heap.size≤w.heap.size+1;omega) _).st (by show w.heap.size≤w.heap.size+1;omega) _,RatB.mk HM.out.1 HM.out.2.1 HM.out.2.2 (Rp.bl.keep (Rp.bl.keep R1.out (S':=fun b=>(S b∨w.heap.size+1<b)∧b<w1.heap.size) (w':=w1) fun b hb=>⟨⟨.inl hb,Nat.lt_of_lt_of_le (HS.out b hb) HX1.out.size⟩,HX1.out.block b (HS.out b hb)⟩) ?_) (Rp.bl.keep HR1.out ?_)⟩
   all_goals
    intro b hb;have h1:(S b∨w.heap.size+1<b)∧b<w1.heap.size:=hb;have h2:b≠w.heap.size+1:=by
     rcases h1.1 with h9 | h9
     ·have:=HS.out b h9;omega
     ·omega
    exact⟨⟨h1.1.imp id (fun h9=>by omega),by have:=h1.2;simpa[World.setCell] using this⟩,by rw[far_cell h2,far_cell h2,far_cell h2]⟩
 ·have hl0:¬ bits x=[]:=fun e=>h0 (bits_eq_nil.1 e);have hlp:=List.length_pos_iff.2 hl0;have HM:Hid (decide ((-p).num<0)=!na∧(-p).num.natAbs=x∧(-p).den=d):=by
   refine⟨?_,HM0.out⟩;rw[←HB.out,Rat.neg_num];have:=HX9.out;by_cases hq:p.num<0
   ·rw[decide_eq_true hq,decide_eq_false (by omega)];rfl
   ·rw[decide_eq_false hq,decide_eq_true (by omega)];rfl
  clear h0;cases na
  ·go_enter Tryz.func117,Tryz.ntmps117
   go_wp2
   obtain⟨W,hW,ka,kc,kf,hxw,hwz⟩:=box2 w #[.bool false,.slice a1 (bits x).length c1,.slice a2 (bits d).length c2] #[.bool false,.slice none 0 0,.slice none 0 0] 136 136;rw[←hW];have HX0:=Lib.hid hxw.dr;have K0:Tri w.heap.size (.bool false) (.slice a1 (bits x).length c1) (.slice a2 (bits d).length c2) W.drew:=⟨⟨ka 0,ka 1,ka 2⟩,by show _<W.heap.size;omega⟩
   have HT0:Hid (Thr (w.heap.size+1) (.bool false) (.slice none 0 0) (.slice none 0 0) W.drew):=Thr.ext (w:=W) ⟨kc 0,kc 1,kc 2,kf,hwz⟩ (Below.refl _ _).dr;clear hW ka kc kf hxw
   go_region_held3 (fun w'=>w'.cell? ⟨w.heap.size,0,none⟩=some (.bool false)∧w'.cell? ⟨w.heap.size,1,none⟩=some (.slice a1 (bits x).length c1)∧w'.cell? ⟨w.heap.size,2,none⟩=some (.slice a2 (bits d).length c2)) (first | exact K3.1 | exact K2.1 | exact(((K2.set (by omega)).set (by omega)).set (by omega)).1 | exact K1.1 | exact(((K1.set (by omega)).set (by omega)).set (by omega)).1 | exact K0.1)
    (first
      | (go_at_call 125;refine(lowE1 S w _ HVA.out HS.out HX0.out HE.out).mono ?_;rintro e1 w1 ⟨p1,r1,rfl,hx1,hr1⟩;have HX1:=Lib.hid (HX0.out.tr hx1);have HR1:=Lib.hid (Rp.bl.keep hr1 (S':=fun b=>(S b∨w.heap.size+1<b)∧b<w1.heap.size) (w':=w1) fun b hb=>⟨⟨hb.1.imp id (fun h9=>Nat.lt_of_lt_of_le HT0.out.lt h9),hb.2⟩,rfl⟩);have HT1:=HT0.out.ext hx1;have t0:=HT1.c0;have t1:=HT1.c1;have t2:=HT1.c2;have t3:=HT1.fr;have t4:=HT1.lt;have K1:=K0.ext hx1;clear hx1 hr1 HT1))
   all_goals go_wp2
   all_goals
    refine bodyPost_ret (v:= .agg #[.bool true,.slice a1 (bits x).length c1,.slice p1 (bits d).length r1]) (by simp[results,Tryz.results117,go_sem,t0,t1,t2]) rfl ?_;refine⟨_,rfl,(((HX1.out).st (by show w.heap.size≤w.heap.size+1;omega) _).st (by show w.heap.size≤w.heap.size+1;omega) _).st (by show w.heap.size≤w.heap.size+1;omega) _,RatB.mk HM.out.1 HM.out.2.1 HM.out.2.2 (Rp.bl.keep (Rp.bl.keep R1.out (S':=fun b=>(S b∨w.heap.size+1<b)∧b<w1.heap.size) (w':=w1) fun b hb=>⟨⟨.inl hb,Nat.lt_of_lt_of_le (HS.out b hb) HX1.out.size⟩,HX1.out.block b (HS.out b hb)⟩) ?_) (Rp.bl.keep HR1.out ?_)⟩
    all_goals
     intro b hb;have h1:(S b∨w.heap.size+1<b)∧b<w1.heap.size:=hb;have h2:b≠w.heap.size+1:=by
      rcases h1.1 with h9 | h9
      ·have:=HS.out b h9;omega
      ·omega
     exact⟨⟨h1.1.imp id (fun h9=>by omega),by have:=h1.2;simpa[World.setCell] using this⟩,by rw[far_cell h2,far_cell h2,far_cell h2]⟩
  ·go_enter Tryz.func117,Tryz.ntmps117
   go_wp2
   obtain⟨W,hW,ka,kc,kf,hxw,hwz⟩:=box2 w #[.bool true,.slice a1 (bits x).length c1,.slice a2 (bits d).length c2] #[.bool false,.slice none 0 0,.slice none 0 0] 136 136;rw[←hW];have HX0:=Lib.hid hxw.dr;have K0:Tri w.heap.size (.bool true) (.slice a1 (bits x).length c1) (.slice a2 (bits d).length c2) W.drew:=⟨⟨ka 0,ka 1,ka 2⟩,by show _<W.heap.size;omega⟩
   have HT0:Hid (Thr (w.heap.size+1) (.bool false) (.slice none 0 0) (.slice none 0 0) W.drew):=Thr.ext (w:=W) ⟨kc 0,kc 1,kc 2,kf,hwz⟩ (Below.refl _ _).dr;clear hW ka kc kf hxw;refine wp_region_held_drew (S:=fun w'=>w'.cell? ⟨w.heap.size,0,none⟩=some (.bool true)∧w'.cell? ⟨w.heap.size,1,none⟩=some (.slice a1 (bits x).length c1)∧w'.cell? ⟨w.heap.size,2,none⟩=some (.slice a2 (bits d).length c2)) (by kernel_rfl) K0.1 (fun hHeld=>?_);refine wpAnyH_take (i:=0) (v:= .pointer (some ⟨w.heap.size,0,none⟩)) rfl (by kernel_rfl) (by kernel_rfl) (by kernel_rfl) (fun _ _ _ h=>h) (Or.inl ⟨by rfl,fun w9 hs9=>by(try dsimp only at hs9);go_simp⟩) hHeld ?_;simp only[Act.put,List.getElem_toArray,List.getElem_cons_zero,List.setIfInBounds_toArray,List.set_cons_zero,List.set_cons_succ];refine wpAnyH_take (i:=1) (v:= .bool true) rfl (by kernel_rfl) (by kernel_rfl) (by kernel_rfl) (fun _ _ _ h=>h) (Or.inl ⟨by rfl,fun w9 hs9=>by(try dsimp only at hs9);go_simp⟩) hHeld ?_;simp only[Act.put,List.getElem_toArray,List.getElem_cons_zero,List.getElem_cons_succ,List.setIfInBounds_toArray,List.set_cons_zero,List.set_cons_succ];refine wpAnyH_take (i:=2) (v:= .bool false) rfl (by kernel_rfl) (by kernel_rfl) (by kernel_rfl) (fun _ _ _ h=>h) (Or.inl ⟨by rfl,fun w9 hs9=>by(try dsimp only at hs9);go_simp⟩) hHeld ?_;simp only[Act.put,List.getElem_toArray,List.getElem_cons_zero,List.getElem_cons_succ,List.setIfInBounds_toArray,List.set_cons_zero,List.set_cons_succ]
   refine wpAnyH_take (i:=3) (v:= .bool false) rfl (by kernel_rfl) (by kernel_rfl) (by kernel_rfl) (fun _ _ _ h=>h) (Or.inl ⟨by rfl,fun w9 hs9=>by(try dsimp only at hs9);go_simp⟩) hHeld ?_;simp only[Act.put,List.getElem_toArray,List.getElem_cons_zero,List.getElem_cons_succ,List.setIfInBounds_toArray,List.set_cons_zero,List.set_cons_succ];refine wpAnyH_take (i:=4) (v:=undef) rfl (by kernel_rfl) (by kernel_rfl) (by kernel_rfl) (fun _ _ _ h=>h) (Or.inr ⟨by rfl,rfl⟩) hHeld ?_;simp only[Act.put,List.getElem_toArray,List.getElem_cons_zero,List.getElem_cons_succ,List.setIfInBounds_toArray,List.set_cons_zero,List.set_cons_succ];refine wpAnyH_take (i:=5) (v:=undef) rfl (by kernel_rfl) (by kernel_rfl) (by kernel_rfl) (fun _ _ _ h=>h) (Or.inr ⟨by rfl,rfl⟩) hHeld ?_;simp only[Act.put,List.getElem_toArray,List.getElem_cons_zero,List.getElem_cons_succ,List.setIfInBounds_toArray,List.set_cons_zero,List.set_cons_succ];refine wpAnyH_take (i:=6) (v:=undef) rfl (by kernel_rfl) (by kernel_rfl) (by kernel_rfl) (fun _ _ _ h=>h) (Or.inr ⟨by rfl,rfl⟩) hHeld ?_;simp only[Act.put,List.getElem_toArray,List.getElem_cons_zero,List.getElem_cons_succ,List.setIfInBounds_toArray,List.set_cons_zero,List.set_cons_succ];refine wpAnyH_take (i:=7) (v:=undef) rfl (by kernel_rfl) (by kernel_rfl) (by kernel_rfl) (fun _ _ _ h=>h) (Or.inr ⟨by rfl,rfl⟩) hHeld ?_;simp only[Act.put,List.getElem_toArray,List.getElem_cons_zero,List.getElem_cons_succ,List.setIfInBounds_toArray,List.set_cons_zero,List.set_cons_succ]
   refine wpAnyH_take (i:=8) (v:= .bool false) rfl (by kernel_rfl) (by kernel_rfl) (by kernel_rfl) (fun _ _ _ h=>h) (Or.inl ⟨by rfl,fun w9 hs9=>by(try dsimp only at hs9);go_simp⟩) hHeld ?_;simp only[Act.put,List.getElem_toArray,List.getElem_cons_zero,List.getElem_cons_succ,List.setIfInBounds_toArray,List.set_cons_zero,List.set_cons_succ];refine wpAnyH_take (i:=9) (v:= .pointer (some ⟨w.heap.size,1,none⟩)) rfl (by kernel_rfl) (by kernel_rfl) (by kernel_rfl) (fun _ _ _ h=>h) (Or.inl ⟨by rfl,fun w9 hs9=>by(try dsimp only at hs9);go_simp⟩) hHeld ?_;simp only[Act.put,List.getElem_toArray,List.getElem_cons_zero,List.getElem_cons_succ,List.setIfInBounds_toArray,List.set_cons_zero,List.set_cons_succ];refine wpAnyH_take (i:=10) (v:= .slice a1 (bits x).length c1) rfl (by kernel_rfl) (by kernel_rfl) (by kernel_rfl) (fun _ _ _ h=>h) (Or.inl ⟨by rfl,fun w9 hs9=>by(try dsimp only at hs9);go_simp⟩) hHeld ?_;simp only[Act.put,List.getElem_toArray,List.getElem_cons_zero,List.getElem_cons_succ,List.setIfInBounds_toArray,List.set_cons_zero,List.set_cons_succ];refine wpAnyH_take (i:=11) (v:= .agg #[.bool true,.slice a1 (bits x).length c1,.slice a2 (bits d).length c2]) rfl (by kernel_rfl) (by kernel_rfl) (by kernel_rfl) (fun _ _ _ h=>h) (Or.inl ⟨by rfl,fun w9 hs9=>by(try dsimp only at hs9);go_simp⟩) hHeld ?_;simp only[Act.put,List.getElem_toArray,List.getElem_cons_zero,List.getElem_cons_succ,List.setIfInBounds_toArray,List.set_cons_zero,List.set_cons_succ]
   refine wpAnyH_ready (rs:=[12]) (by kernel_rfl) (by simp) ?_;refine AllReadyH.cons rfl (fun K hK=>?_) AllReadyH.nil;simp only[List.getElem_toArray,List.getElem_cons_zero,List.getElem_cons_succ]
   go_simp
   go_at_call 125
   refine(lowE1 S w _ HVA.out HS.out HX0.out HE.out).mono ?_;rintro e1 w1 ⟨p1,r1,rfl,hx1,hr1⟩;have HX1:=Lib.hid (HX0.out.tr hx1);have HR1:=Lib.hid (Rp.bl.keep hr1 (S':=fun b=>(S b∨w.heap.size+1<b)∧b<w1.heap.size) (w':=w1) fun b hb=>⟨⟨hb.1.imp id (fun h9=>Nat.lt_of_lt_of_le HT0.out.lt h9),hb.2⟩,rfl⟩);have HT1:=HT0.out.ext hx1;have t0:=HT1.c0;have t1:=HT1.c1;have t2:=HT1.c2;have t3:=HT1.fr;have t4:=HT1.lt;have K1:=K0.ext hx1;clear hx1 hr1 HT1 hHeld;refine hK.out _ _ K1.1 (fun hHeld=>?_);clear hK K;refine wpAnyH_take (i:=13) (v:= .agg #[.bool false,.slice a1 (bits x).length c1,.slice p1 (bits d).length r1]) rfl (by kernel_rfl) (by kernel_rfl) (by kernel_rfl) (fun _ _ _ h=>h) (Or.inl ⟨by rfl,fun w9 hs9=>by(try dsimp only at hs9);go_simp⟩) hHeld ?_;simp only[Act.put,List.getElem_toArray,List.getElem_cons_zero,List.getElem_cons_succ,List.setIfInBounds_toArray,List.set_cons_zero,List.set_cons_succ];refine wpAnyH_ready (rs:=[14]) (by kernel_rfl) (by simp) ?_;refine AllReadyH.cons rfl (fun K hK=>?_) AllReadyH.nil;simp only[List.getElem_toArray,List.getElem_cons_zero,List.getElem_cons_succ]
   go_simp
   refine hK.out _ _ (((K1.set (by omega)).set (by omega)).set (by omega)).1 (fun hHeld=>?_);clear hK K;refine wpAnyH_done (by kernel_rfl) ?_ _
   go_wp2
   refine bodyPost_ret (v:= .agg #[.bool false,.slice a1 (bits x).length c1,.slice p1 (bits d).length r1]) (by simp[results,Tryz.results117,go_sem,t0,t1,t2]) rfl ?_;refine⟨_,rfl,(((HX1.out).st (by show w.heap.size≤w.heap.size+1;omega) _).st (by show w.heap.size≤w.heap.size+1;omega) _).st (by show w.heap.size≤w.heap.size+1;omega) _,RatB.mk HM.out.1 HM.out.2.1 HM.out.2.2 (Rp.bl.keep (Rp.bl.keep R1.out (S':=fun b=>(S b∨w.heap.size+1<b)∧b<w1.heap.size) (w':=w1) fun b hb=>⟨⟨.inl hb,Nat.lt_of_lt_of_le (HS.out b hb) HX1.out.size⟩,HX1.out.block b (HS.out b hb)⟩) ?_) (Rp.bl.keep HR1.out ?_)⟩
   all_goals
    intro b hb;have h1:(S b∨w.heap.size+1<b)∧b<w1.heap.size:=hb;have h2:b≠w.heap.size+1:=by
     rcases h1.1 with h9 | h9
     ·have:=HS.out b h9;omega
     ·omega
    exact⟨⟨h1.1.imp id (fun h9=>by omega),by have:=h1.2;simpa[World.setCell] using this⟩,by rw[far_cell h2,far_cell h2,far_cell h2]⟩
theorem addBE(va vb:Value)(p q:Rat)(w0 w:World)(k m:Nat)(ha:RatB (Lt w0.heap.size) w0 va p)(hx:Ext w0 w)(hb:RatB (Lt w.heap.size) w vb q)(h1:Bd k p)(h2:Bd m q)(hk:k+m≤50000000):
  Calls Tryz.prog 61 #[va,vb] w (RatBAns (p+q) no w):=addRB_any va vb p q w k m (ha.below hx) hb h1 h2 hk
theorem negBE(va:Value)(p:Rat)(w0 w:World)(ha:RatB (Lt w0.heap.size) w0 va p)(hx:Ext w0 w):
  Calls Tryz.prog 117 #[va] w (RatBAns (-p) (Lt w.heap.size) w):=negB_any va p w _ (fun _ hb=>hb) (ha.below hx)
theorem cmpRB_any(va vb:Value)(p q:Rat)(w:World)(k m:Nat)(ha:RatB (Lt w.heap.size) w va p)(hb:RatB (Lt w.heap.size) w vb q)(h1:Bd k p)(h2:Bd m q)(hk:k+m≤50000000):
  Calls Tryz.prog 58 #[va,vb] w fun e w'=>e= .returned (.int .i64 (sgnR (p-q)))∧Ext w w':=by
 have HVA:=Lib.hid ha;have HVB:=Lib.hid hb;obtain⟨na,x,d,a1,a2,c1,c2,rfl,e1,e2,e3,r1,r2⟩:=ha.open;obtain⟨nb,y,e,b1,b2,d1,d2,rfl,e4,e5,e6,r3,r4⟩:=hb.open;have HL:=Lib.hid (And.intro h1 (And.intro h2.neg hk));clear r1 r2 r3 r4 ha hb e1 e2 e3 e4 e5 e6 h1 h2 hk
 go_enter Tryz.func58,Tryz.ntmps58
 go_wp2
 obtain⟨W,hW,ka,kb,kf,hxw,hwz⟩:=box2 w #[.bool na,.slice a1 (bits x).length c1,.slice a2 (bits d).length c2] #[.bool nb,.slice b1 (bits y).length d1,.slice b2 (bits e).length d2] 136 136;rw[←hW];have HX0:=Lib.hid hxw.dr;have K0:Six w.heap.size (.bool na) (.slice a1 (bits x).length c1) (.slice a2 (bits d).length c2) (.bool nb) (.slice b1 (bits y).length d1) (.slice b2 (bits e).length d2) W.drew:=⟨⟨ka 0,ka 1,ka 2,kb 0,kb 1,kb 2⟩,by show _<W.heap.size;omega⟩
 clear hW ka kb kf hxw
 go_region_held3 (fun w'=>w'.cell? ⟨w.heap.size,0,none⟩=some (.bool na)∧w'.cell? ⟨w.heap.size,1,none⟩=some (.slice a1 (bits x).length c1)∧w'.cell? ⟨w.heap.size,2,none⟩=some (.slice a2 (bits d).length c2)∧w'.cell? ⟨w.heap.size+1,0,none⟩=some (.bool nb)∧w'.cell? ⟨w.heap.size+1,1,none⟩=some (.slice b1 (bits y).length d1)∧w'.cell? ⟨w.heap.size+1,2,none⟩=some (.slice b2 (bits e).length d2)) (first | exact K3.1 | exact K2.1 | exact K1.1 | exact K0.1)
  (first
    | (go_at_call 117;refine(negBE _ q w _ HVB.out HX0.out).mono ?_;rintro e1 w1 ⟨v1,rfl,hx1,hr1⟩;have HX1:=Lib.hid (HX0.out.tr hx1);have HR1:=Lib.hid (RatB.lt hr1);have K1:=K0.ext hx1;obtain⟨n1,z1,u1,s1,s2,s3,s4,rfl,z2,z3,z4,z5,z6⟩:=hr1.open;clear hx1 hr1 z2 z3 z4 z5 z6)
    | (go_at_call 61;refine(addBE _ _ p (-q) w _ k m HVA.out HX1.out HR1.out HL.out.1 HL.out.2.1 HL.out.2.2).mono ?_;rintro e2 w2 ⟨v2,rfl,hx2,hr2⟩;have HX2:=Lib.hid (HX1.out.tr hx2);have HR2:=Lib.hid (RatB.lt hr2);have K2:=K1.ext hx2;obtain⟨n5,z11,u11,s11,s12,s13,s14,rfl,z12,z13,z14,z15,z16⟩:=hr2.open;clear hx2 hr2 z12 z13 z14 z15 z16)
    | (go_at_call 63;refine(signB_any _ _ _ _ HR2.out).mono ?_;rintro e3 w3 ⟨rfl,hx3⟩;have HX3:=Lib.hid (HX2.out.tr hx3);have K3:=K2.ext hx3;clear hx3))
 all_goals go_wp2
 all_goals
  rw[show p+ -q=p-q from(Rat.sub_eq_add_neg p q).symm]
  go_ret
  exact⟨rfl,HX3.out⟩
end Go.Proofs.YthdkkpocihkgbaaGreatDoor
