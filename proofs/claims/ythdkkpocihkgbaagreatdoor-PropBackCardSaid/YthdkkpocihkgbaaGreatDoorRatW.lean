import Derived.Test.YthdkkpocihkgbaaGreatDoorNumD
set_option maxRecDepth 100000
set_option maxHeartbeats 4000000
namespace Go.Proofs.YthdkkpocihkgbaaGreatDoor
open Go.RowKit
def denL(d:Nat):List Nat:=if d=1 then []else limbs d
def RatV(S:Nat→Prop)(w:World)(v:Value)(q:Rat):Prop:=∃ a c a' c',v= .agg #[.bool (decide (q.num<0)),.slice a (limbs q.num.natAbs).length c,.slice a' (denL q.den).length c']∧
 Rp.lst.rel S w [.slice a (limbs q.num.natAbs).length c] (limbs q.num.natAbs)∧Rp.lst.rel S w [.slice a' (denL q.den).length c'] (denL q.den)
theorem RatV.keep{S S':Nat→Prop}{w w':World}{v:Value}{q:Rat}(h:RatV S w v q)(hs:∀ b,S b→S' b∧w'.heap[b]?=w.heap[b]?):RatV S' w' v q:=by
 obtain⟨a,c,a',c',e,h1,h2⟩:=h;exact⟨a,c,a',c',e,lst_to h1 hs,lst_to h2 hs⟩
theorem RatV.mono{S S':Nat→Prop}{w:World}{v:Value}{q:Rat}(h:RatV S w v q)(hs:∀ b,S b→S' b):RatV S' w v q:=h.keep fun b hb=>⟨hs b hb,rfl⟩
theorem RatV.below{w w':World}{v:Value}{q:Rat}(h:RatV (Lt w.heap.size) w v q)(hx:Ext w w'):RatV (Lt w'.heap.size) w' v q:=h.keep fun b hb=>⟨Nat.lt_of_lt_of_le hb hx.size,hx.block b hb⟩
def RatAns(q:Rat)(S:Nat→Prop)(w:World):Ending→World→Prop:=fun e w'=>∃ v,e= .returned v∧Ext w w'∧RatV (Mo S w.heap.size w') w' v q
def NatAnsS(x:Nat)(S:Nat→Prop)(w:World):Ending→World→Prop:=fun e w'=>∃ a c,e= .returned (.slice a (limbs x).length c)∧Ext w w'∧Rp.lst.rel (Mo S w.heap.size w') w' [.slice a (limbs x).length c] (limbs x)
theorem limbs_one:limbs 1=[1]:=by unfold limbs;rw[digs_pos (by decide) (by decide)];rw[show 1 / 4294967296=0 by decide,digs_zero]
theorem one_any(w:World):Calls Tryz.prog 211 #[] w (NatAns 1 w):=by
 have hr:=lst_lit w 229 #[.int .u32 1] [1] (by simp[encU]) (by intro x hx;simp at hx;omega) (by simp[maxLen]);have HR:=Lib.hid hr;clear hr
 go_enter Tryz.func211,Tryz.ntmps211
 go_wp2
 go_ret
 refine⟨some ⟨w.heap.size,0,none⟩,1,?_,(Below.refl _ _).al _,?_⟩
 ·rw[limbs_one];rfl
 ·rw[limbs_one];exact⟨_,_,rfl,Nat.le_refl _,by simp[maxLen],fun _=>⟨w.heap.size,0,rfl,⟨.inr (Nat.le_refl _),by simp⟩,fun i hi=>by
   obtain⟨a,c,e,_,_,h⟩:=HR.out;injection e with e;injection e with e1 e2 e3;subst e1;obtain⟨b,o,e4,_,h5⟩:=h (by simp);injection e4 with e4;injection e4 with e4 e6;subst e4 e6;exact h5 i hi⟩⟩
theorem below_any(v:Value)(q:Rat)(w:World)(S:Nat→Prop)(hS:∀ b,S b→b<w.heap.size)(h:RatV S w v q):Calls Tryz.prog 170 #[v] w (NatAnsS q.den S w):=by
 obtain⟨a,c,a',c',rfl,h1,h2⟩:=h;have H2:=Lib.hid h2;have HS:=Lib.hid hS;clear h1 h2 hS;by_cases h0:q.den=1
 ·have hd:denL q.den=[]:=by rw[h0];rfl
  rw[hd]at H2 ⊢;have HD:=Lib.hid h0;clear h0 hd
  go_enter Tryz.func170,Tryz.ntmps170
  go_wp2_with fail
  refine(one_any _).mono ?_;rintro e w1 ⟨b1,c1,rfl,hx,hr⟩;have HX:=Lib.hid (((Below.refl w.heap.size w).al _).tr hx);have HR:=Lib.hid hr;clear hx hr
  go_wp2
  go_ret
  rw[HD.out];exact⟨b1,c1,rfl,HX.out,lst_to HR.out fun b hb=>⟨mo_up ((Below.refl w.heap.size w).al _) b hb,rfl⟩⟩
 ·have hd:denL q.den=limbs q.den:=by unfold denL;rw[if_neg h0]
  rw[hd]at H2 ⊢;have hne:¬ limbs q.den=[]:=fun e=>q.den_nz (limbs_eq_nil.1 e);have hlp:=List.length_pos_iff.2 hne;have hb2:(((limbs q.den).length:Int)==0)=false:=by rw[beq_eq_false_iff_ne];omega
  clear h0 hd
  go_enter Tryz.func170,Tryz.ntmps170
  go_wp2
  go_ret
  exact⟨a',c',rfl,(Below.refl _ _).al _,lst_to H2.out fun b hb=>⟨⟨.inl hb,by have:=HS.out b hb;simp;omega⟩,((Below.refl w.heap.size w).al _).block b (HS.out b hb)⟩⟩
def sgnR(q:Rat):Int:=if q.num<0 then-1 else if q.num=0 then 0 else 1
theorem sign_any(v:Value)(q:Rat)(w:World)(S:Nat→Prop)(h:RatV S w v q):Calls Tryz.prog 103 #[v] w fun e w'=>e= .returned (.int .i64 (sgnR q))∧Ext w w':=by
 obtain⟨a,c,a',c',rfl,h1,h2⟩:=h;clear h1 h2;by_cases h0:q.num=0
 ·have hs:sgnR q=0:=by unfold sgnR;rw[if_neg (by omega),if_pos h0]
  have hl:limbs q.num.natAbs=[]:=by rw[h0];exact limbs_zero
  rw[hs,hl];clear h0 hs hl
  go_enter Tryz.func103,Tryz.ntmps103
  go_wp2
  go_ret
  exact⟨rfl,(Below.refl _ _).al _⟩
 ·have hne:¬ limbs q.num.natAbs=[]:=fun e=>by have:=limbs_eq_nil.1 e;omega
  have hlp:=List.length_pos_iff.2 hne;have hb2:(((limbs q.num.natAbs).length:Int)==0)=false:=by rw[beq_eq_false_iff_ne];omega
  by_cases hn:q.num<0
  ·have hs:sgnR q= -1:=by unfold sgnR;rw[if_pos hn]
   rw[hs,decide_eq_true hn];clear h0 hn hs
   go_enter Tryz.func103,Tryz.ntmps103
   go_wp2
   go_ret
   exact⟨rfl,(Below.refl _ _).al _⟩
  ·have hs:sgnR q=1:=by unfold sgnR;rw[if_neg hn,if_neg h0]
   rw[hs,decide_eq_false hn];clear h0 hn hs
   go_enter Tryz.func103,Tryz.ntmps103
   go_wp2
   go_ret
   exact⟨rfl,(Below.refl _ _).al _⟩
theorem RatV.open{S:Nat→Prop}{w:World}{v:Value}{q:Rat}(h:RatV S w v q):∃ (nb:Bool) (x d:Nat) (a a':Option Addr) (c c':Nat),v= .agg #[.bool nb,.slice a (limbs x).length c,.slice a' (denL d).length c']∧decide (q.num<0)=nb∧q.num.natAbs=x∧q.den=d∧
  Rp.lst.rel S w [.slice a (limbs x).length c] (limbs x)∧Rp.lst.rel S w [.slice a' (denL d).length c'] (denL d):=by
 obtain⟨a,c,a',c',e,h1,h2⟩:=h;exact⟨_,_,_,a,a',c,c',e,rfl,rfl,rfl,h1,h2⟩
theorem RatV.mk{S:Nat→Prop}{w:World}{q:Rat}{nb:Bool}{x d:Nat}{a a':Option Addr}{c c':Nat}(hb:decide (q.num<0)=nb)(hx:q.num.natAbs=x)(hd:q.den=d)
  (h1:Rp.lst.rel S w [.slice a (limbs x).length c] (limbs x)) (h2:Rp.lst.rel S w [.slice a' (denL d).length c'] (denL d)):RatV S w (.agg #[.bool nb,.slice a (limbs x).length c,.slice a' (denL d).length c']) q:=by
 subst hb hx hd;exact⟨a,c,a',c',rfl,h1,h2⟩
theorem old_mo{S:Nat→Prop}{w w':World}(hS:∀ b,S b→b<w.heap.size)(hx:Ext w w')(b:Nat)(hb:S b):Mo S w.heap.size w' b∧w'.heap[b]?=w.heap[b]?:=
 ⟨⟨.inl hb,Nat.lt_of_lt_of_le (hS b hb) hx.size⟩,hx.block b (hS b hb)⟩
theorem RatAns.close{S:Nat→Prop}{w w':World}{q:Rat}{nb:Bool}{x d:Nat}{a a':Option Addr}{c c':Nat}(hS:∀ b,S b→b<w.heap.size)(hx:Ext w w')(hb:decide (q.num<0)=nb)(hxx:q.num.natAbs=x)(hd:q.den=d)
  (h1:Rp.lst.rel S w [.slice a (limbs x).length c] (limbs x)) (h2:Rp.lst.rel S w [.slice a' (denL d).length c'] (denL d)):RatAns q S w (.returned (.agg #[.bool nb,.slice a (limbs x).length c,.slice a' (denL d).length c'])) w':=
 ⟨_,rfl,hx,RatV.mk hb hxx hd (lst_to h1 (old_mo hS hx)) (lst_to h2 (old_mo hS hx))⟩
theorem neg_any(v:Value)(q:Rat)(w:World)(S:Nat→Prop)(hS:∀ b,S b→b<w.heap.size)(h:RatV S w v q):Calls Tryz.prog 161 #[v] w (RatAns (-q) S w):=by
 obtain⟨nb,x,d,a,a',c,c',rfl,hb,hx,hd,h1,h2⟩:=h.open;have hden:(-q).den=d:=by rw[Rat.neg_den q,hd]
 have hnum:(-q).num.natAbs=x:=by rw[Rat.neg_num q,Int.natAbs_neg,hx]
 have H1:=Lib.hid h1;have H2:=Lib.hid h2;have HS:=Lib.hid hS;by_cases h0:x=0
 ·have hnb:decide ((-q).num<0)=false:=by rw[Rat.neg_num q];exact decide_eq_false (by omega)
  have hnb2:nb=false:=by rw[←hb];exact decide_eq_false (by omega)
  have HE:=Lib.hid (And.intro hden (And.intro hnum hnb));have hl:limbs x=[]:=by rw[h0,limbs_zero]
  clear h1 h2 hS hden hnum hnb hb hx hd h;subst h0;have HL:=Lib.hid hl;rw[hl]at H1 ⊢;subst hnb2;clear hl
  go_enter Tryz.func161,Tryz.ntmps161
  go_wp2
  refine bodyPost_ret (v:= .agg #[.bool false,.slice a 0 c,.slice a' (denL d).length c']) (by simp[results,Tryz.results161,go_sem]) rfl ?_;have:=RatAns.close HS.out (((Below.refl w.heap.size w).al (Obj.cells #[.bool false,.slice a 0 c,.slice a' (denL d).length c'] 119)).al (Obj.cells #[.bool false,.slice a 0 c,.slice a' (denL d).length c'] 119)) HE.out.2.2 HE.out.2.1 HE.out.1 (a:=a) (c:=c) (a':=a') (c':=c') (by rw[HL.out];exact H1.out) H2.out;rw[HL.out]at this;exact this
 ·have hne:¬ limbs x=[]:=fun e=>by have:=limbs_eq_nil.1 e;omega
  have hnb:decide ((-q).num<0)=!nb:=by
   rw[←hb,Rat.neg_num q];by_cases hq:q.num<0
   ·rw[decide_eq_true hq,decide_eq_false (by omega)];rfl
   ·rw[decide_eq_false hq,decide_eq_true (by omega)];rfl
  have HE:=Lib.hid (And.intro hden (And.intro hnum hnb));have hlp:=List.length_pos_iff.2 hne;clear h1 h2 hS hden hnum hnb hb hx hd h h0;cases nb
  ·go_enter Tryz.func161,Tryz.ntmps161
   go_wp2
   refine bodyPost_ret (v:= .agg #[.bool true,.slice a (limbs x).length c,.slice a' (denL d).length c']) (by simp[results,Tryz.results161,go_sem]) rfl ?_;exact RatAns.close HS.out (((Below.refl _ _).al _).al _) HE.out.2.2 HE.out.2.1 HE.out.1 H1.out H2.out
  ·go_enter Tryz.func161,Tryz.ntmps161
   go_wp2
   refine bodyPost_ret (v:= .agg #[.bool false,.slice a (limbs x).length c,.slice a' (denL d).length c']) (by simp[results,Tryz.results161,go_sem]) rfl ?_;exact RatAns.close HS.out (((Below.refl _ _).al _).al _) HE.out.2.2 HE.out.2.1 HE.out.1 H1.out H2.out
theorem one_cmp{G:Nat}(h:G=1):cmpN G 1=0:=by rw[h];exact cmpN_eq 1
theorem one_cmp'{G:Nat}(h:G≠1):(cmpN G 1 != 0)=true:=by
 rw[bne_iff_ne];unfold cmpN;split
 ·decide
 ·split
  ·decide
  ·omega
theorem one_cmp''{G:Nat}(h:G≠1):(cmpN G 1==0)=false:=by
 have:=one_cmp' h;simpa using this
theorem cmpL_any(x y:Nat)(a a':Option Addr)(n n' c c':Nat)(w:World)(S S':Nat→Prop)(h:Rp.lst.rel S w [.slice a n c] (limbs x))(h':Rp.lst.rel S' w [.slice a' n' c'] (limbs y)):
  Calls Tryz.prog 213 #[.slice a n c,.slice a' n' c'] w fun e w'=>e= .returned (.int .i64 (cmpN x y))∧∃ q,w'=w.drewN q:=by
 have:=cmp_any (limbs x) (limbs y) a a' n n' c c' w S S' h h';rw[limbs_val,limbs_val]at this;exact this
theorem RatV.mk'{S:Nat→Prop}{w:World}{q:Rat}{nb:Bool}{x:Nat}{l2:List Nat}{a a':Option Addr}{c c':Nat}(hb:decide (q.num<0)=nb)(hx:q.num.natAbs=x)(hd:denL q.den=l2)
  (h1:Rp.lst.rel S w [.slice a (limbs x).length c] (limbs x)) (h2:Rp.lst.rel S w [.slice a' l2.length c'] l2):RatV S w (.agg #[.bool nb,.slice a (limbs x).length c,.slice a' l2.length c']) q:=by
 subst hb hx hd;exact⟨a,c,a',c',rfl,h1,h2⟩
theorem far_cell{w:World}{b g o:Nat}{v:Value}(h:b≠g):(w.setCell ⟨g,o,none⟩ v).heap[b]?=w.heap[b]?:=Below.heap_setCell _ _ _ _ h
theorem lst_draw{S:Nat→Prop}{w w':World}{cs:List Value}{l:List Nat}(h:Rp.lst.rel S w cs l)(e:w'.heap=w.heap):Rp.lst.rel S w' cs l:=lst_to h fun b hb=>⟨hb,by rw[e]⟩
theorem made_any(neg:Bool)(l m:List Nat)(a a':Option Addr)(n n' c c':Nat)(w:World)(h:Rp.lst.rel (Lt w.heap.size) w [.slice a n c] l)(h':Rp.lst.rel (Lt w.heap.size) w [.slice a' n' c'] m)
  (hl:l.length≤100000000) (hm:m.length≤100000000) (hy:0<dval 4294967296 m):
  Calls Tryz.prog 171 #[.bool neg,.slice a n c,.slice a' n' c'] w (RatAns (mkRat (sgn neg (dval 4294967296 l)) (dval 4294967296 m)) no w):=by
 obtain⟨rfl,h1,h2⟩:=lst_len h;obtain⟨rfl,h1',h2'⟩:=lst_len h';obtain⟨m1,m2,m3⟩:=made_num neg (dval 4294967296 l) (dval 4294967296 m) (by omega);have HM:=Lib.hid (And.intro m3 (And.intro m1 m2));clear m1 m2 m3;have hG:0<Nat.gcd (dval 4294967296 l) (dval 4294967296 m):=Nat.gcd_pos_of_pos_right _ hy;have HY:=Lib.hid hy;have H1:=Lib.hid h;have H2:=Lib.hid h';have HX0:Hid (Ext w (w.alloc (Obj.cells #[.bool false,.slice none 0 0,.slice none 0 0] 119))):=(Below.refl _ _).al _;have HGC:=Lib.hid (gcd_any l m a a' _ _ c c' (w.alloc (Obj.cells #[.bool false,.slice none 0 0,.slice none 0 0] 119)) ((Rp.slice _).below h HX0.out HX0.out.size) ((Rp.slice _).below h' HX0.out HX0.out.size) hl hm);clear h h' hy;generalize hg:Nat.gcd (dval 4294967296 l) (dval 4294967296 m)=G at*;have HG:=Lib.hid hg;clear hg
 go_enter Tryz.func171,Tryz.ntmps171
 go_wp2_with fail
 refine HGC.out.mono ?_;rintro e w1 ⟨ga,gc,rfl,hx1,hr1⟩;have HX1:=Lib.hid hx1;have HR1:=Lib.hid (lst_to (S':=Lt w1.heap.size) (w':=w1) hr1 fun b hb=>⟨hb.2,rfl⟩);clear hx1 hr1 HGC
 go_wp2_with fail
 refine(one_any _).mono ?_;rintro e w2 ⟨oa,oc,rfl,hx2,hr2⟩;have HX2:=Lib.hid (HX1.out.tr hx2);have HR2:=Lib.hid (lst_to (S':=Lt w2.heap.size) (w':=w2) hr2 fun b hb=>⟨hb.2,rfl⟩);have HR1':=Lib.hid ((Rp.slice _).below HR1.out hx2 hx2.size);have hcm:=cmp_any (limbs G) (limbs 1) ga oa _ _ gc oc w2 _ _ HR1'.out HR2.out;rw[limbs_val,limbs_val]at hcm;have HCM:=Lib.hid hcm;clear hx2 hr2 hcm HR1
 go_wp2_with fail
 refine HCM.out.mono ?_;rintro e w3 ⟨rfl,qq,rfl⟩;have HX3:=Lib.hid (HX2.out.drN qq)
 go_upto_if 15 with (fail)
 go_cut [1,2]from 7 (fun s1 s2 wc=>∃ (a1 a2:Option Addr) (c1 c2:Nat) (l1 l2:List Nat),s1= .slice a1 l1.length c1∧s2= .slice a2 l2.length c2∧l1.length≤100000000∧l2.length≤100000000∧Hid (dval 4294967296 l1=dval 4294967296 l / G∧dval 4294967296 l2=dval 4294967296 m / G)∧
  Hid (Rp.lst.rel (Lt wc.heap.size) wc [s1] l1)∧Hid (Rp.lst.rel (Lt wc.heap.size) wc [s2] l2)∧Hid (Ext (w.alloc (Obj.cells #[.bool false,.slice none 0 0,.slice none 0 0] 119)) wc))
 case first=>
  by_cases hg1:G=1
  ·have hc0:cmpN G 1=0:=one_cmp hg1;rw[hc0];have HG1:=Lib.hid hg1;clear hg1 hc0
   go_wp2
   go_meet
   refine⟨a,a',c,c',l,m,rfl,rfl,hl,hm,?_,?_,?_,HX3.out⟩
   ·rw[Hid,HG1.out,Nat.div_one,Nat.div_one];exact⟨rfl,rfl⟩
   ·exact(Rp.slice _).below H1.out (HX0.out.tr HX3.out) (HX0.out.tr HX3.out).size
   ·exact(Rp.slice _).below H2.out (HX0.out.tr HX3.out) (HX0.out.tr HX3.out).size
  ·have hc1:=one_cmp' hg1;generalize cmpN G 1=cm at*;have hgl:(limbs G).length≤100000000:=by
    rw[←HG.out];exact Nat.le_trans (digs_len_mono (by decide) (Nat.gcd_le_right _ HY.out)) (Nat.le_trans (digs_take_len (B:=4294967296) (by decide) (lst_dg H2.out)).2 hm)
   have hd1:=divmod_any l (limbs G) a ga _ _ c gc (w2.drewN qq) ((Rp.slice _).below H1.out (HX0.out.tr HX3.out) (HX0.out.tr HX3.out).size) (Rp.drN _ HR1'.out qq) hl hgl (by rw[limbs_val];exact hG);rw[limbs_val]at hd1;have HD1:=Lib.hid hd1;clear hd1 hg1
   go_wp2_with fail
   refine HD1.out.mono ?_;rintro e w4 ⟨qa,qc,ra,rc,rfl,hx4,hq4,_⟩;have HX4:=Lib.hid (HX3.out.tr hx4);have HG4:=Lib.hid ((Rp.slice _).below (Rp.drN _ HR1'.out qq) hx4 hx4.size);have HQ4:=Lib.hid (lst_to (S':=Lt w4.heap.size) (w':=w4) hq4 fun b hb=>⟨hb.2,rfl⟩);have hd2:=divmod_any m (limbs G) a' ga _ _ c' gc w4 ((Rp.slice _).below H2.out (HX0.out.tr HX4.out) (HX0.out.tr HX4.out).size) HG4.out hm hgl (by rw[limbs_val];exact hG);rw[limbs_val]at hd2;have HD2:=Lib.hid hd2;clear hd2 hx4 hq4 HD1
   go_wp2_with fail
   refine HD2.out.mono ?_;rintro e w5 ⟨qa2,qc2,ra2,rc2,rfl,hx5,hq5,_⟩;have HX5:=Lib.hid (HX4.out.tr hx5);have HQ5:=Lib.hid ((Rp.slice _).below HQ4.out hx5 hx5.size);have HP5:=Lib.hid (lst_to (S':=Lt w5.heap.size) (w':=w5) hq5 fun b hb=>⟨hb.2,rfl⟩);clear hx5 hq5 HD2
   go_wp2
   go_meet
   refine⟨qa,qa2,qc,qc2,limbs (dval 4294967296 l / G),limbs (dval 4294967296 m / G),rfl,rfl,?_,?_,⟨limbs_val _,limbs_val _⟩,HQ5.out,HP5.out,HX5.out⟩
   ·exact Nat.le_trans (digs_len_mono (by decide) (Nat.div_le_self _ _)) (Nat.le_trans (digs_take_len (B:=4294967296) (by decide) (lst_dg H1.out)).2 hl)
   ·exact Nat.le_trans (digs_len_mono (by decide) (Nat.div_le_self _ _)) (Nat.le_trans (digs_take_len (B:=4294967296) (by decide) (lst_dg H2.out)).2 hm)
 case rest=>
  obtain⟨a1,a2,c1,c2,l1,l2,rfl,rfl,hl1,hl2,HV,HP1,HP2,HXC⟩:=hcut;clear HX3 HR1' HR2 HX2 HX1 HCM HX0 H1 H2;have HN1:=Lib.hid (norm_any l1 a1 _ c1 wc _ HP1.out (by omega));rw[HV.out.1]at HN1
  go_wp2_with fail
  refine HN1.out.mono ?_;rintro e w4 ⟨b1,d1,rfl,hx4,hr4⟩;have HX4:=Lib.hid (HXC.out.tr hx4);have HR4:=Lib.hid hr4;have hn2:=norm_any l2 a2 _ c2 w4 _ ((Rp.slice _).below HP2.out hx4 hx4.size) (by omega);rw[HV.out.2]at hn2;have HN2:=Lib.hid hn2;have HZ4:=Lib.hid HXC.out.size;clear hx4 hr4 hn2 HN1
  go_wp2_with fail
  refine HN2.out.mono ?_;rintro e w5 ⟨b2,d2,rfl,hx5,hr5⟩;have HX5:=Lib.hid (HX4.out.tr hx5);have HR4':=Lib.hid (lst_to (S':=fun b=>w.heap.size<b∧b<w5.heap.size) (w':=w5) HR4.out fun b hb=>⟨⟨by have h1:=HZ4.out;have h2:=hb.1.resolve_left id;simp at h1;omega,Nat.lt_of_lt_of_le hb.2 hx5.size⟩,hx5.block b hb.2⟩);have HR5':=Lib.hid (lst_to (S':=fun b=>w.heap.size<b∧b<w5.heap.size) (w':=w5) hr5 fun b hb=>⟨⟨by have h1:=HX4.out.size;have h2:=hb.1.resolve_left id;simp at h1;omega,hb.2⟩,rfl⟩);have HDV:=Lib.hid (Nat.div_pos (Nat.gcd_le_right _ HY.out) (HG.out▸hG));rw[HG.out]at HDV;have HXZ:Hid (dval 4294967296 l / G=0↔dval 4294967296 l=0):=by
   constructor
   ·intro h;rcases (Nat.div_eq_zero_iff).1 h with h | h
    ·omega
    ·have h1:=Nat.gcd_dvd_left (dval 4294967296 l) (dval 4294967296 m);rw[HG.out]at h1;exact Nat.eq_zero_of_dvd_of_lt h1 h
   ·intro h;rw[h];exact Nat.zero_div _
  generalize hxx:dval 4294967296 l=xx at*;generalize hyy:dval 4294967296 m=yy at*;generalize hnx:xx / G=X at*;generalize hny:yy / G=D at*;have HNX:=Lib.hid (And.intro hxx (And.intro hyy (And.intro hnx hny)));clear hxx hyy hnx hny HN2 HP1 HP2 HV HXC;obtain⟨nb,hnb⟩:∃ nb,nb=(neg&&decide (0<xx)):=⟨_,rfl⟩
  have HNB:=Lib.hid hnb;clear hx5 hr5
  go_upto_region 6 with (fail)
  go_cut []from 35 (fun wd=>wd=w5.alloc (Obj.cells #[.bool nb,.slice b1 (limbs X).length d1,.slice b2 (limbs D).length d2] 119))
  case first=>
   cases neg with
   | false=>
     have hn:nb=false:=by rw[hnb];rfl
     clear hnb;subst hn
     go_wp2
     go_meet
     rfl
   | true=>
     by_cases hx0:xx=0
     ·have hn:nb=false:=by rw[hnb,hx0];rfl
      have hl0:limbs X=[]:=by rw[HXZ.out.2 hx0,limbs_zero]
      clear hnb hx0;subst hn
      go_wp2
      go_meet
      rw[hl0];rfl
     ·have hn:nb=true:=by rw[hnb];simp;omega
      have hl0:¬ limbs X=[]:=fun e=>hx0 (HXZ.out.1 (limbs_eq_nil.1 e));have hlp:=List.length_pos_iff.2 hl0;clear hnb hx0;subst hn
      go_wp2
      go_meet
      rfl
  case rest=>
   subst hcut;clear hnb;obtain⟨kc,kf⟩:=bcell HX5.out;have k0:w5.cell? ⟨w.heap.size,0,none⟩=some (.bool false):=by rw[kc _ _ (by simp)];simp
   have k1:w5.cell? ⟨w.heap.size,1,none⟩=some (.slice none 0 0):=by rw[kc _ _ (by simp)];simp
   have k2:w5.cell? ⟨w.heap.size,2,none⟩=some (.slice none 0 0):=by rw[kc _ _ (by simp)];simp
   have f0:∀ o,w5.frozen? ⟨w.heap.size,o,none⟩=false:=fun o=>by rw[kf _ _ (by simp)];simp
   have hz5:w.heap.size<w5.heap.size:=by have:=HX5.out.size;simp at this;omega
   clear kc kf;have HDC:=Lib.hid (lst_to (S':=Lt (w5.alloc (Obj.cells #[.bool nb,.slice b1 (limbs X).length d1,.slice b2 (limbs D).length d2] 119)).heap.size) (w':=w5.alloc (Obj.cells #[.bool nb,.slice b1 (limbs X).length d1,.slice b2 (limbs D).length d2] 119)) HR5'.out fun b hb=>⟨by have h1:b<w5.heap.size:=hb.2;simp;omega,((Below.refl w5.heap.size w5).alloc (Nat.le_refl _) _).block b hb.2⟩);by_cases hD:D=1
   ·have hcc:(cmpN D 1==0)=true:=by rw[hD];rfl
    have HDD:=Lib.hid hD;clear hD
    go_wp2
    go_region_held3 (fun w'=>w'.cell? ⟨w5.heap.size,2,none⟩=some (.slice b2 (limbs D).length d2)) (go_keep)
     (first
       | (go_at_call 211;refine(one_any _).mono ?_;rintro e w6 ⟨oa2,oc2,rfl,hx6,hr6⟩;obtain⟨hc6,hf6⟩:=bcell hx6)
       | (go_at_call 213;refine(cmpL_any D 1 b2 oa2 _ _ d2 oc2 _ (Lt _) (Mo no _ _) (lst_to HDC.out (S':=Lt w6.heap.size) (w':=w6) fun b hb=>⟨Nat.lt_of_lt_of_le hb hx6.size,hx6.block b hb⟩) hr6).mono ?_;rintro e w7 ⟨rfl,q7,rfl⟩))
    have r0:w6.cell? ⟨w5.heap.size,0,none⟩=some (.bool nb):=by rw[hc6 _ _ (by simp)];simp
    have r1:w6.cell? ⟨w5.heap.size,1,none⟩=some (.slice b1 (limbs X).length d1):=by rw[hc6 _ _ (by simp)];simp
    have r2:w6.cell? ⟨w5.heap.size,2,none⟩=some (.slice b2 (limbs D).length d2):=by rw[hc6 _ _ (by simp)];simp
    have r3:∀ o,w6.frozen? ⟨w5.heap.size,o,none⟩=false:=fun o=>by rw[hf6 _ _ (by simp)];simp
    have t0:w6.cell? ⟨w.heap.size,0,none⟩=some (.bool false):=by rw[hc6 _ _ (by simp;omega)];simp[World.cell?_alloc_some,k0]
    have t1:w6.cell? ⟨w.heap.size,1,none⟩=some (.slice none 0 0):=by rw[hc6 _ _ (by simp;omega)];simp[World.cell?_alloc_some,k1]
    have t2:w6.cell? ⟨w.heap.size,2,none⟩=some (.slice none 0 0):=by rw[hc6 _ _ (by simp;omega)];simp[World.cell?_alloc_some,k2]
    have f1:∀ o,w6.frozen? ⟨w.heap.size,o,none⟩=false:=fun o=>by rw[hf6 _ _ (by simp;omega)];rw[World.frozen?_drew];rw[World.frozen?_alloc_past _ _ _ hz5];exact f0 o
    have HX6:=Lib.hid (((((Below.refl w.heap.size w).al _).tr HX5.out).al _).dr.tr hx6);have HB1:=Lib.hid (lst_to (S':=fun b=>w.heap.size<b∧b<w5.heap.size) (w':=w6) HR4'.out fun b hb=>⟨hb,(hx6.block b (by have h1:b<w5.heap.size:=hb.2;simp;omega)).trans (((Below.refl w5.heap.size w5).alloc (Nat.le_refl _) _).block b hb.2)⟩);have HB2:=Lib.hid (lst_to (S':=fun b=>w.heap.size<b∧b<w5.heap.size) (w':=w6) HR5'.out fun b hb=>⟨hb,(hx6.block b (by have h1:b<w5.heap.size:=hb.2;simp;omega)).trans (((Below.refl w5.heap.size w5).alloc (Nat.le_refl _) _).block b hb.2)⟩);have hz6:w5.heap.size<w6.heap.size:=by have:=hx6.size;simp at this;omega
    have hne:¬ w.heap.size=w5.heap.size:=by omega
    have hne':¬ w5.heap.size=w.heap.size:=by omega
    clear hc6 hf6 hx6 hr6 k0 k1 k2 f0
    go_wp2
    refine bodyPost_ret (v:= .agg #[.bool nb,.slice b1 (limbs X).length d1,.slice none 0 0]) (by simp[results,Tryz.results171,go_sem,t0,t1,t2]) rfl ?_;refine⟨_,rfl,((((HX6.out.drN q7).st (by show w.heap.size≤w5.heap.size;omega) _).st (Nat.le_refl _) _).st (Nat.le_refl _) _).st (Nat.le_refl _) _,RatV.mk' (l2:=[]) (HM.out.1.trans HNB.out.symm) HM.out.2.1 (by rw[HM.out.2.2,HDD.out];rfl) (lst_to HB1.out ?_) rel_nil⟩;intro b hb;have h1:w.heap.size<b:=hb.1;have h2:b<w5.heap.size:=hb.2;exact⟨⟨.inr (by omega),by simp[World.setCell];omega⟩,by rw[far_cell (by omega),far_cell (by omega),far_cell (by omega),far_cell (by omega)];rfl⟩
   ·have hcc:=one_cmp'' hD;have HDD:=Lib.hid hD;clear hD
    go_wp2
    go_region_held3 (fun w'=>w'.cell? ⟨w5.heap.size,2,none⟩=some (.slice b2 (limbs D).length d2)) (go_keep)
     (first
       | (go_at_call 211;refine(one_any _).mono ?_;rintro e w6 ⟨oa2,oc2,rfl,hx6,hr6⟩;obtain⟨hc6,hf6⟩:=bcell hx6)
       | (go_at_call 213;refine(cmpL_any D 1 b2 oa2 _ _ d2 oc2 _ (Lt _) (Mo no _ _) (lst_to HDC.out (S':=Lt w6.heap.size) (w':=w6) fun b hb=>⟨Nat.lt_of_lt_of_le hb hx6.size,hx6.block b hb⟩) hr6).mono ?_;rintro e w7 ⟨rfl,q7,rfl⟩))
    have r0:w6.cell? ⟨w5.heap.size,0,none⟩=some (.bool nb):=by rw[hc6 _ _ (by simp)];simp
    have r1:w6.cell? ⟨w5.heap.size,1,none⟩=some (.slice b1 (limbs X).length d1):=by rw[hc6 _ _ (by simp)];simp
    have r2:w6.cell? ⟨w5.heap.size,2,none⟩=some (.slice b2 (limbs D).length d2):=by rw[hc6 _ _ (by simp)];simp
    have r3:∀ o,w6.frozen? ⟨w5.heap.size,o,none⟩=false:=fun o=>by rw[hf6 _ _ (by simp)];simp
    have t0:w6.cell? ⟨w.heap.size,0,none⟩=some (.bool false):=by rw[hc6 _ _ (by simp;omega)];simp[World.cell?_alloc_some,k0]
    have t1:w6.cell? ⟨w.heap.size,1,none⟩=some (.slice none 0 0):=by rw[hc6 _ _ (by simp;omega)];simp[World.cell?_alloc_some,k1]
    have t2:w6.cell? ⟨w.heap.size,2,none⟩=some (.slice none 0 0):=by rw[hc6 _ _ (by simp;omega)];simp[World.cell?_alloc_some,k2]
    have f1:∀ o,w6.frozen? ⟨w.heap.size,o,none⟩=false:=fun o=>by rw[hf6 _ _ (by simp;omega)];rw[World.frozen?_drew];rw[World.frozen?_alloc_past _ _ _ hz5];exact f0 o
    have HX6:=Lib.hid (((((Below.refl w.heap.size w).al _).tr HX5.out).al _).dr.tr hx6);have HB1:=Lib.hid (lst_to (S':=fun b=>w.heap.size<b∧b<w5.heap.size) (w':=w6) HR4'.out fun b hb=>⟨hb,(hx6.block b (by have h1:b<w5.heap.size:=hb.2;simp;omega)).trans (((Below.refl w5.heap.size w5).alloc (Nat.le_refl _) _).block b hb.2)⟩);have HB2:=Lib.hid (lst_to (S':=fun b=>w.heap.size<b∧b<w5.heap.size) (w':=w6) HR5'.out fun b hb=>⟨hb,(hx6.block b (by have h1:b<w5.heap.size:=hb.2;simp;omega)).trans (((Below.refl w5.heap.size w5).alloc (Nat.le_refl _) _).block b hb.2)⟩);have hz6:w5.heap.size<w6.heap.size:=by have:=hx6.size;simp at this;omega
    have hne:¬ w.heap.size=w5.heap.size:=by omega
    have hne':¬ w5.heap.size=w.heap.size:=by omega
    clear hc6 hf6 hx6 hr6 k0 k1 k2 f0
    go_wp2
    refine bodyPost_ret (v:= .agg #[.bool nb,.slice b1 (limbs X).length d1,.slice b2 (limbs D).length d2]) (by simp[results,Tryz.results171,go_sem,t0,t1,t2]) rfl ?_;refine⟨_,rfl,(((HX6.out.drN q7).st (Nat.le_refl _) _).st (Nat.le_refl _) _).st (Nat.le_refl _) _,RatV.mk' (l2:=limbs D) (HM.out.1.trans HNB.out.symm) HM.out.2.1 (by rw[HM.out.2.2];unfold denL;rw[if_neg HDD.out]) (lst_to HB1.out ?_) (lst_to HB2.out ?_)⟩
    all_goals intro b hb
    all_goals have h1:w.heap.size<b:=hb.1
    all_goals have h2:b<w5.heap.size:=hb.2
    all_goals exact⟨⟨.inr (by omega),by simp[World.setCell];omega⟩,by rw[far_cell (by omega),far_cell (by omega),far_cell (by omega)];rfl⟩
section
variable (x y:Nat)(a a':Option Addr)(c c':Nat)(w:World)
theorem addL(h:Rp.lst.rel (Lt w.heap.size) w [.slice a (limbs x).length c] (limbs x))(h':Rp.lst.rel (Lt w.heap.size) w [.slice a' (limbs y).length c'] (limbs y))(hl:(limbs x).length≤100000000)(hm:(limbs y).length≤100000000):
  Calls Tryz.prog 209 #[.slice a (limbs x).length c,.slice a' (limbs y).length c'] w (NatAns (x+y) w):=by
 have:=add_any (limbs x) (limbs y) a a' _ _ c c' w h h' (by omega) (by omega);rwa[limbs_val,limbs_val]at this
theorem mulL(h:Rp.lst.rel (Lt w.heap.size) w [.slice a (limbs x).length c] (limbs x))(h':Rp.lst.rel (Lt w.heap.size) w [.slice a' (limbs y).length c'] (limbs y))(hl:(limbs x).length≤100000000)(hm:(limbs y).length≤100000000):
  Calls Tryz.prog 169 #[.slice a (limbs x).length c,.slice a' (limbs y).length c'] w (NatAns (x*y) w):=by
 have:=mul_any (limbs x) (limbs y) a a' _ _ c c' w h h' (by omega) (by omega);rwa[limbs_val,limbs_val]at this
theorem subL(h:Rp.lst.rel (Lt w.heap.size) w [.slice a (limbs x).length c] (limbs x))(h':Rp.lst.rel (Lt w.heap.size) w [.slice a' (limbs y).length c'] (limbs y))(hl:(limbs x).length≤100000000)(hxy:y≤x):
  Calls Tryz.prog 210 #[.slice a (limbs x).length c,.slice a' (limbs y).length c'] w (NatAns2 (x-y) true w):=by
 have:=sub_ge (limbs x) (limbs y) a a' _ _ c c' w h h' (by omega) (by rw[limbs_val,limbs_val];exact hxy);rwa[limbs_val,limbs_val]at this
theorem subL'(h:Rp.lst.rel (Lt w.heap.size) w [.slice a (limbs x).length c] (limbs x))(h':Rp.lst.rel (Lt w.heap.size) w [.slice a' (limbs y).length c'] (limbs y))(hxy:x<y):
  Calls Tryz.prog 210 #[.slice a (limbs x).length c,.slice a' (limbs y).length c'] w (NatAns2 0 false w):=
 sub_lt (limbs x) (limbs y) a a' _ _ c c' w h h' (by rw[limbs_val,limbs_val];exact hxy)
theorem madeL(neg:Bool)(h:Rp.lst.rel (Lt w.heap.size) w [.slice a (limbs x).length c] (limbs x))(h':Rp.lst.rel (Lt w.heap.size) w [.slice a' (limbs y).length c'] (limbs y))(hl:(limbs x).length≤100000000)(hm:(limbs y).length≤100000000)(hy:0<y):
  Calls Tryz.prog 171 #[.bool neg,.slice a (limbs x).length c,.slice a' (limbs y).length c'] w (RatAns (mkRat (sgn neg x) y) no w):=by
 have:=made_any neg (limbs x) (limbs y) a a' _ _ c c' w h h' (by omega) (by omega) (by rw[limbs_val];exact hy);rwa[limbs_val,limbs_val]at this
end
def SumAns(s:Bool×Nat)(w:World):Ending→World→Prop:=fun e w'=>∃ a c,e= .returned (.tuple #[.bool s.1,.slice a (limbs s.2).length c])∧Ext w w'∧Rp.lst.rel (Mo no w.heap.size w') w' [.slice a (limbs s.2).length c] (limbs s.2)
theorem bool_ne_cases{a b:Bool}(h:a≠b):(a==b)=false:=by cases a<;>cases b<;>simp_all
theorem sum_any(an bn:Bool)(x y:Nat)(a a':Option Addr)(c c':Nat)(w:World)(h:Rp.lst.rel (Lt w.heap.size) w [.slice a (limbs x).length c] (limbs x))(h':Rp.lst.rel (Lt w.heap.size) w [.slice a' (limbs y).length c'] (limbs y))(hl:(limbs x).length≤100000000)(hm:(limbs y).length≤100000000):
  Calls Tryz.prog 168 #[.bool an,.slice a (limbs x).length c,.bool bn,.slice a' (limbs y).length c'] w (SumAns (sumS an x bn y) w):=by
 by_cases hs:an=bn
 ·have HE:Hid (sumS an x bn y=(an,x+y)):=by show _=_;unfold sumS;rw[if_pos hs]
  have HA:=Lib.hid (addL x y a a' c c' w h h' hl hm);have hb:(an==bn)=true:=by simpa using hs
  clear hs h h';rw[HE.out]
  go_enter Tryz.func168,Tryz.ntmps168
  go_wp2_with fail
  refine HA.out.mono ?_;rintro e w1 ⟨ra,rc,rfl,hx,hr⟩;have HX:=Lib.hid hx;have HR:=Lib.hid hr;clear hx hr
  go_wp2
  go_ret2
  exact⟨ra,rc,rfl,HX.out,HR.out⟩
 ·have hb:=bool_ne_cases hs;by_cases hxy:y≤x
  ·have HE:Hid (sumS an x bn y=(an,x-y)):=by show _=_;unfold sumS;rw[if_neg hs,if_pos hxy]
   have HA:=Lib.hid (subL x y a a' c c' w h h' hl hxy);clear hs h h' hxy;rw[HE.out]
   go_enter Tryz.func168,Tryz.ntmps168
   go_wp2_with fail
   refine HA.out.mono ?_;rintro e w1 ⟨ra,rc,rfl,hx,hr⟩;have HX:=Lib.hid hx;have HR:=Lib.hid hr;clear hx hr
   go_wp2
   go_ret2
   exact⟨ra,rc,rfl,HX.out,HR.out⟩
  ·have HE:Hid (sumS an x bn y=(bn,y-x)):=by show _=_;unfold sumS;rw[if_neg hs,if_neg hxy]
   have HA:=Lib.hid (subL' x y a a' c c' w h h' (by omega));have H1:=Lib.hid h;have H2:=Lib.hid h';have hyx:x≤y:=by omega
   clear hs h h' hxy;rw[HE.out]
   go_enter Tryz.func168,Tryz.ntmps168
   go_wp2_with fail
   refine HA.out.mono ?_;rintro e w1 ⟨ra,rc,rfl,hx,hr⟩;have HX:=Lib.hid hx;have HB:=Lib.hid (subL y x a' a c' c w1 ((Rp.slice _).below H2.out hx hx.size) ((Rp.slice _).below H1.out hx hx.size) hm hyx);clear hx hr
   go_wp2_with fail
   refine HB.out.mono ?_;rintro e w2 ⟨sa,sc,rfl,hx,hr⟩;have HX2:=Lib.hid (HX.out.tr hx);have HR2:=Lib.hid (lst_to (S':=Mo no w.heap.size w2) (w':=w2) hr fun b hb=>⟨mo_up HX.out b hb,rfl⟩);clear hx hr
   go_wp2
   go_ret2
   exact⟨sa,sc,rfl,HX2.out,HR2.out⟩
theorem wrap_neg{n:Int}(h0: -9223372036854775808≤n)(hn:n<0):IntKind.u64.wrap (-IntKind.u64.wrap n)=((n.natAbs:Nat):Int):=by
 rw[IntKind.wrap_u64,IntKind.wrap_u64];omega
theorem int_rat(n:Int){nb:Bool}(h:decide (n<0)=nb):decide ((n:Rat).num<0)=nb∧(n:Rat).num.natAbs=n.natAbs∧denL (n:Rat).den=[]:=by
 rw[Rat.num_intCast,Rat.den_intCast];exact⟨h,rfl,rfl⟩
theorem intR_any(n:Int)(w:World)(h0: -9223372036854775808≤n)(h1:n≤9223372036854775807):Calls Tryz.prog 50 #[.int .i64 n] w (RatAns n no w):=by
 have HWD:=Lib.hid (word_any n.natAbs (w.alloc (Obj.cells #[.bool false,.slice none 0 0,.slice none 0 0] 119)) (by omega));by_cases hn:n<0
 ·have HE:=Lib.hid (int_rat n (decide_eq_true hn));have HW:=Lib.hid (wrap_neg h0 hn)
  go_enter Tryz.func50,Tryz.ntmps50
  go_wp2_with fail
  rw[HW.out];refine HWD.out.mono ?_;rintro e w1 ⟨ra,rc,rfl,hx,hr⟩;have HX:=Lib.hid (((Below.refl w.heap.size w).al _).tr hx);obtain⟨kc,kf⟩:=bcell hx;have t0:w1.cell? ⟨w.heap.size,0,none⟩=some (.bool false):=by rw[kc _ _ (by simp)];simp
  have t1:w1.cell? ⟨w.heap.size,1,none⟩=some (.slice none 0 0):=by rw[kc _ _ (by simp)];simp
  have t2:w1.cell? ⟨w.heap.size,2,none⟩=some (.slice none 0 0):=by rw[kc _ _ (by simp)];simp
  have f0:∀ o,w1.frozen? ⟨w.heap.size,o,none⟩=false:=fun o=>by rw[kf _ _ (by simp)];simp
  have hz:w.heap.size<w1.heap.size:=by have:=hx.size;simp at this;omega
  have HR:=Lib.hid (lst_to (S':=fun b=>w.heap.size<b∧b<w1.heap.size) (w':=w1) hr fun b hb=>⟨⟨by have:=hb.1.resolve_left id;simp at this;omega,hb.2⟩,rfl⟩);clear kc kf hx hr
  go_wp2
  refine bodyPost_ret (v:= .agg #[.bool true,.slice ra (limbs n.natAbs).length rc,.slice none 0 0]) (by simp[results,Tryz.results50,go_sem,t0,t1,t2]) rfl ?_;refine⟨_,rfl,(((HX.out).st (Nat.le_refl _) _).st (Nat.le_refl _) _).st (Nat.le_refl _) _,RatV.mk' (l2:=[]) HE.out.1 HE.out.2.1 HE.out.2.2 (lst_to HR.out ?_) rel_nil⟩;intro b hb;have h1:w.heap.size<b:=hb.1;have h2:b<w1.heap.size:=hb.2;exact⟨⟨.inr (by omega),by simp[World.setCell];omega⟩,by rw[far_cell (by omega),far_cell (by omega),far_cell (by omega)]⟩
 ·have HE:=Lib.hid (int_rat n (decide_eq_false hn));obtain⟨m,rfl⟩:=Int.eq_ofNat_of_zero_le (by omega:0≤n);rw[Int.natAbs_natCast]at HWD
  go_enter Tryz.func50,Tryz.ntmps50
  go_wp2_with fail
  refine HWD.out.mono ?_;rintro e w1 ⟨ra,rc,rfl,hx,hr⟩;have HX:=Lib.hid (((Below.refl w.heap.size w).al _).tr hx);obtain⟨kc,kf⟩:=bcell hx;have t0:w1.cell? ⟨w.heap.size,0,none⟩=some (.bool false):=by rw[kc _ _ (by simp)];simp
  have t1:w1.cell? ⟨w.heap.size,1,none⟩=some (.slice none 0 0):=by rw[kc _ _ (by simp)];simp
  have t2:w1.cell? ⟨w.heap.size,2,none⟩=some (.slice none 0 0):=by rw[kc _ _ (by simp)];simp
  have f0:∀ o,w1.frozen? ⟨w.heap.size,o,none⟩=false:=fun o=>by rw[kf _ _ (by simp)];simp
  have hz:w.heap.size<w1.heap.size:=by have:=hx.size;simp at this;omega
  have HR:=Lib.hid (lst_to (S':=fun b=>w.heap.size<b∧b<w1.heap.size) (w':=w1) hr fun b hb=>⟨⟨by have:=hb.1.resolve_left id;simp at this;omega,hb.2⟩,rfl⟩);clear kc kf hx hr
  go_wp2
  refine bodyPost_ret (v:= .agg #[.bool false,.slice ra (limbs m).length rc,.slice none 0 0]) (by simp[results,Tryz.results50,go_sem,t0,t1,t2]) rfl ?_;refine⟨_,rfl,(((HX.out).st (Nat.le_refl _) _).st (Nat.le_refl _) _).st (Nat.le_refl _) _,RatV.mk' (l2:=[]) HE.out.1 HE.out.2.1 HE.out.2.2 (lst_to HR.out ?_) rel_nil⟩;intro b hb;have h1:w.heap.size<b:=hb.1;have h2:b<w1.heap.size:=hb.2;exact⟨⟨.inr (by omega),by simp[World.setCell];omega⟩,by rw[far_cell (by omega),far_cell (by omega),far_cell (by omega)]⟩
theorem bd_len{k n:Nat}(h:n<2^k)(hk:k≤100000000):(limbs n).length≤100000000:=Nat.le_trans (limbs_len_le' h) hk
theorem sgn_of{q:Rat}{nb:Bool}{x:Nat}(h:decide (q.num<0)=nb)(hx:q.num.natAbs=x):q.num=sgn nb x:=by subst h hx;exact(sgn_neg q.num).symm
theorem rat_add_sum{a b:Rat}{na nb:Bool}{x y d e:Nat}(h1:decide (a.num<0)=na)(h2:a.num.natAbs=x)(h3:a.den=d)(h4:decide (b.num<0)=nb)(h5:b.num.natAbs=y)(h6:b.den=e):
  a+b=mkRat (sgn (sumS na (x*e) nb (y*d)).1 (sumS na (x*e) nb (y*d)).2) (d*e):=by
 rw[sumS_eq,sgn_scale,sgn_scale,←sgn_of h1 h2,←sgn_of h4 h5,rat_add_made,h3,h6]
theorem rat_mul_sgn{a b:Rat}{na nb:Bool}{x y d e:Nat}(h1:decide (a.num<0)=na)(h2:a.num.natAbs=x)(h3:a.den=d)(h4:decide (b.num<0)=nb)(h5:b.num.natAbs=y)(h6:b.den=e):
  a*b=mkRat (sgn (na != nb) (x*y)) (d*e):=by
 rw[sgn_mul,←sgn_of h1 h2,←sgn_of h4 h5,rat_mul_made,h3,h6]
theorem belowE{v:Value}{q:Rat}{d:Nat}(w0 w:World)(h:RatV (Lt w0.heap.size) w0 v q)(hx:Ext w0 w)(hd:q.den=d):Calls Tryz.prog 170 #[v] w (NatAnsS d (Lt w0.heap.size) w):=by
 subst hd;exact below_any v q w _ (fun _ hb=>Nat.lt_of_lt_of_le hb hx.size) (h.keep fun b hb=>⟨hb,hx.block b hb⟩)
theorem cell_new(w:World)(cs:Array Value)(T:TypeId)(i:Nat):(w.alloc (.cells cs T)).cell? ⟨w.heap.size,i,none⟩=cs[i]?:=by
 rw[World.cell?];simp only[heap_alloc_new];rfl
theorem froz_new(w:World)(cs:Array Value)(T:TypeId)(i:Nat):(w.alloc (.cells cs T)).frozen? ⟨w.heap.size,i,none⟩=false:=World.frozen?_alloc_at _ _ _ _ rfl
theorem box3(w:World)(A B C:Array Value)(T U V:TypeId):∃ W,W=((w.alloc (.cells A T)).alloc (.cells B U)).alloc (.cells C V)∧(∀i,W.cell? ⟨w.heap.size,i,none⟩=A[i]?)∧(∀i,W.cell? ⟨w.heap.size+1,i,none⟩=B[i]?)∧(∀i,W.cell? ⟨w.heap.size+1+1,i,none⟩=C[i]?)∧
  (∀i,W.frozen? ⟨w.heap.size+1+1,i,none⟩=false)∧Ext w W∧w.heap.size+1+1<W.heap.size:=by
 have e1:(w.alloc (.cells A T)).heap.size=w.heap.size+1:=by simp
 have e2:((w.alloc (.cells A T)).alloc (.cells B U)).heap.size=w.heap.size+1+1:=by simp
 refine⟨_,rfl,fun i=>?_,fun i=>?_,fun i=>?_,fun i=>?_,(((Below.refl _ _).al _).al _).al _,by simp⟩
 ·have h:Ext (w.alloc (.cells A T)) (((w.alloc (.cells A T)).alloc (.cells B U)).alloc (.cells C V)):=((Below.refl _ _).al _).al _;rw[(bcell h).1 _ _ (by simp),cell_new]
 ·have h:Ext ((w.alloc (.cells A T)).alloc (.cells B U)) (((w.alloc (.cells A T)).alloc (.cells B U)).alloc (.cells C V)):=(Below.refl _ _).al _;rw[(bcell h).1 _ _ (by simp),←e1,cell_new]
 ·rw[←e2,cell_new]
 ·rw[←e2,froz_new]
def Six(B:Nat)(v0 v1 v2 u0 u1 u2:Value)(w':World):Prop:=
 (w'.cell? ⟨B,0,none⟩=some v0∧w'.cell? ⟨B,1,none⟩=some v1∧w'.cell? ⟨B,2,none⟩=some v2∧w'.cell? ⟨B+1,0,none⟩=some u0∧w'.cell? ⟨B+1,1,none⟩=some u1∧w'.cell? ⟨B+1,2,none⟩=some u2)∧B+1<w'.heap.size
theorem Six.ext{B:Nat}{v0 v1 v2 u0 u1 u2:Value}{w w':World}(h:Six B v0 v1 v2 u0 u1 u2 w)(hx:Ext w w'):Six B v0 v1 v2 u0 u1 u2 w':=by
 obtain⟨⟨h0,h1,h2,h3,h4,h5⟩,hz⟩:=h;have hc:=(bcell hx).1;have z0:B<w.heap.size:=by omega
 exact⟨⟨(hc _ _ z0).trans h0,(hc _ _ z0).trans h1,(hc _ _ z0).trans h2,(hc _ _ hz).trans h3,(hc _ _ hz).trans h4,(hc _ _ hz).trans h5⟩,Nat.lt_of_lt_of_le hz hx.size⟩
theorem Six.set{B g o:Nat}{v v0 v1 v2 u0 u1 u2:Value}{w:World}(h:Six B v0 v1 v2 u0 u1 u2 w)(h1:B≠g)(h2:B+1≠g):Six B v0 v1 v2 u0 u1 u2 (w.setCell ⟨g,o,none⟩ v):=by
 have e1:∀ j,(w.setCell ⟨g,o,none⟩ v).cell? ⟨B,j,none⟩=w.cell? ⟨B,j,none⟩:=fun j=>World.cell?_of_block (far_cell h1);have e2:∀ j,(w.setCell ⟨g,o,none⟩ v).cell? ⟨B+1,j,none⟩=w.cell? ⟨B+1,j,none⟩:=fun j=>World.cell?_of_block (far_cell h2);unfold Six at*;rw[e1,e1,e1,e2,e2,e2];exact⟨h.1,by simpa[World.setCell] using h.2⟩
structure Thr(B:Nat)(v0 v1 v2:Value)(w:World):Prop where
 c0:w.cell? ⟨B,0,none⟩=some v0
 c1:w.cell? ⟨B,1,none⟩=some v1
 c2:w.cell? ⟨B,2,none⟩=some v2
 fr:∀ o,w.frozen? ⟨B,o,none⟩=false
 lt:B<w.heap.size
theorem Thr.ext{B:Nat}{v0 v1 v2:Value}{w w':World}(h:Thr B v0 v1 v2 w)(hx:Ext w w'):Thr B v0 v1 v2 w':=by
 obtain⟨hc,hf⟩:=bcell hx;exact⟨(hc _ _ h.lt).trans h.c0,(hc _ _ h.lt).trans h.c1,(hc _ _ h.lt).trans h.c2,fun o=>(hf _ _ h.lt).trans (h.fr o),Nat.lt_of_lt_of_le h.lt hx.size⟩
theorem lst_up{w w':World}{cs:List Value}{l:List Nat}{S:Nat→Prop}{n:Nat}(h:Rp.lst.rel (Mo S n w) w cs l)(hx:Ext w w'):Rp.lst.rel (Lt w'.heap.size) w' cs l:=lst_to h fun b hb=>⟨Nat.lt_of_lt_of_le hb.2 hx.size,hx.block b hb.2⟩
theorem lst_lt{w:World}{cs:List Value}{l:List Nat}{S:Nat→Prop}{n:Nat}(h:Rp.lst.rel (Mo S n w) w cs l):Rp.lst.rel (Lt w.heap.size) w cs l:=lst_to h fun _ hb=>⟨hb.2,rfl⟩
theorem lst_ext{w w':World}{cs:List Value}{l:List Nat}(h:Rp.lst.rel (Lt w.heap.size) w cs l)(hx:Ext w w'):Rp.lst.rel (Lt w'.heap.size) w' cs l:=lst_to h fun b hb=>⟨Nat.lt_of_lt_of_le hb hx.size,hx.block b hb⟩
theorem addR_any(va vb:Value)(p q:Rat)(w:World)(k m:Nat)(ha:RatV (Lt w.heap.size) w va p)(hb:RatV (Lt w.heap.size) w vb q)(h1:Bd k p)(h2:Bd m q)(hk:k+m≤50000000):
  Calls Tryz.prog 114 #[va,vb] w (RatAns (p+q) no w):=by
 have HVA:=Lib.hid ha;have HVB:=Lib.hid hb;obtain⟨na,x,d,a1,a2,c1,c2,rfl,e1,e2,e3,r1,r2⟩:=ha.open;obtain⟨nb,y,e,b1,b2,d1,d2,rfl,e4,e5,e6,r3,r4⟩:=hb.open;have HSUM:=Lib.hid (rat_add_sum e1 e2 e3 e4 e5 e6);have hxl:=bd_len (e2▸h1.1) (by omega);have hdl:=bd_len (e3▸h1.2) (by omega);have hyl:=bd_len (e5▸h2.1) (by omega);have hel:=bd_len (e6▸h2.2) (by omega);have hxe:=bd_len (lt_pow_mul (e2▸h1.1:x<2^k) (e6▸h2.2:e<2^m)) (by omega);have hyd:=bd_len (lt_pow_mul (e5▸h2.1:y<2^m) (e3▸h1.2:d<2^k)) (by omega);have hde:=bd_len (lt_pow_mul (e3▸h1.2:d<2^k) (e6▸h2.2:e<2^m)) (by omega);have hsl:(limbs (sumS na (x*e) nb (y*d)).2).length≤100000000:=by
  refine bd_len (k:=k+m+1) (Nat.lt_of_le_of_lt (sumS_le _ _ _ _) ?_) (by omega);have g1:=lt_pow_mul (e2▸h1.1:x<2^k) (e6▸h2.2:e<2^m);have g2:=lt_pow_mul (e5▸h2.1:y<2^m) (e3▸h1.2:d<2^k);rw[Nat.add_comm m k]at g2;rw[Nat.pow_succ];omega
 have hdp:0<d*e:=Nat.mul_pos (by rw[←e3];exact Nat.pos_of_ne_zero p.den_nz) (by rw[←e6];exact Nat.pos_of_ne_zero q.den_nz);have HE:=Lib.hid (And.intro e3 e6);have R1:=Lib.hid r1;have R3:=Lib.hid r3;have HL:=Lib.hid (And.intro hxl (And.intro hdl (And.intro hyl (And.intro hel (And.intro hxe (And.intro hyd (And.intro hde (And.intro hsl hdp))))))));clear r1 r2 r3 r4 ha hb e1 e2 e3 e4 e5 e6 h1 h2 hxl hdl hyl hel hxe hyd hde hsl hdp hk
 go_enter Tryz.func114,Tryz.ntmps114
 go_wp2
 go_upto_region 1 with (fail)
 go_cut [5,6]from 7 (fun s5 s6 wc=>∃ (a:Option Addr) (c:Nat),s5= .bool (sumS na (x*e) nb (y*d)).1∧s6= .slice a (limbs (sumS na (x*e) nb (y*d)).2).length c∧Hid (Rp.lst.rel (Lt wc.heap.size) wc [s6] (limbs (sumS na (x*e) nb (y*d)).2))∧
  Hid (Ext (((w.alloc (Obj.cells #[.bool na,.slice a1 (limbs x).length c1,.slice a2 (denL d).length c2] 119)).alloc (Obj.cells #[.bool nb,.slice b1 (limbs y).length d1,.slice b2 (denL e).length d2] 119)).alloc (Obj.cells #[.bool false,.slice none 0 0,.slice none 0 0] 119)) wc))
 case first=>
  go_wp2
  obtain⟨W,hW,ka,kb,kc,kf,hxw,hwz⟩:=box3 w #[.bool na,.slice a1 (limbs x).length c1,.slice a2 (denL d).length c2] #[.bool nb,.slice b1 (limbs y).length d1,.slice b2 (denL e).length d2] #[.bool false,.slice none 0 0,.slice none 0 0] 119 119 119;rw[←hW];have HXW:=Lib.hid hxw.dr;have HW:=Lib.hid hW;have K0:Six w.heap.size (.bool na) (.slice a1 (limbs x).length c1) (.slice a2 (denL d).length c2) (.bool nb) (.slice b1 (limbs y).length d1) (.slice b2 (denL e).length d2) W.drew:=⟨⟨ka 0,ka 1,ka 2,kb 0,kb 1,kb 2⟩,by show _<W.heap.size;omega⟩
  clear hW ka kb kc kf hxw
  go_region_held3 (fun w'=>w'.cell? ⟨w.heap.size,0,none⟩=some (.bool na)∧w'.cell? ⟨w.heap.size,1,none⟩=some (.slice a1 (limbs x).length c1)∧w'.cell? ⟨w.heap.size,2,none⟩=some (.slice a2 (denL d).length c2)∧w'.cell? ⟨w.heap.size+1,0,none⟩=some (.bool nb)∧w'.cell? ⟨w.heap.size+1,1,none⟩=some (.slice b1 (limbs y).length d1)∧w'.cell? ⟨w.heap.size+1,2,none⟩=some (.slice b2 (denL e).length d2)) (first | exact K5.1 | exact K4.1 | exact K3.1 | exact K2.1 | exact K1.1 | exact K0.1)
   (first
     | (go_at_call_of 170 (Value.agg #[Value.bool nb,Value.slice b1 (limbs y).length d1,Value.slice b2 (denL e).length d2]);refine(belowE w _ HVB.out HXW.out HE.out.2).mono ?_;rintro e1 w1 ⟨p1,r1,rfl,hx1,hr1⟩;have HX1:=Lib.hid (HXW.out.tr hx1);have HY1:=Lib.hid hx1;have HR1:=Lib.hid hr1;have K1:=K0.ext hx1;clear hx1 hr1)
     | (go_at_call_of 169 (Value.slice a1 (limbs x).length c1);refine(mulL x e a1 p1 c1 r1 w1 (lst_ext R1.out HX1.out) (lst_lt HR1.out) HL.out.1 HL.out.2.2.2.1).mono ?_;rintro e2 w2 ⟨p2,r2,rfl,hx2,hr2⟩;have HX2:=Lib.hid (HX1.out.tr hx2);have HY2:=Lib.hid (HY1.out.tr hx2);have HR2:=Lib.hid hr2;have K2:=K1.ext hx2;clear hx2 hr2)
     | (go_at_call_of 170 (Value.agg #[Value.bool na,Value.slice a1 (limbs x).length c1,Value.slice a2 (denL d).length c2]);refine(belowE w _ HVA.out HX2.out HE.out.1).mono ?_;rintro e3 w3 ⟨p3,r3,rfl,hx3,hr3⟩;have HX3:=Lib.hid (HX2.out.tr hx3);have HY3:=Lib.hid (HY2.out.tr hx3);have HR3:=Lib.hid hr3;have HP3:=Lib.hid (lst_up HR2.out hx3);have K3:=K2.ext hx3;clear hx3 hr3)
     | (go_at_call_of 169 (Value.slice b1 (limbs y).length d1);refine(mulL y d b1 p3 d1 r3 w3 (lst_ext R3.out HX3.out) (lst_lt HR3.out) HL.out.2.2.1 HL.out.2.1).mono ?_;rintro e4 w4 ⟨p4,r4,rfl,hx4,hr4⟩;have HX4:=Lib.hid (HX3.out.tr hx4);have HY4:=Lib.hid (HY3.out.tr hx4);have HR4:=Lib.hid (lst_lt hr4);have HP4:=Lib.hid (lst_ext HP3.out hx4);have K4:=K3.ext hx4;clear hx4 hr4)
     | (go_at_call 168;refine(sum_any na nb (x*e) (y*d) p2 p4 r2 r4 w4 HP4.out HR4.out HL.out.2.2.2.2.1 HL.out.2.2.2.2.2.1).mono ?_;rintro e5 w5 ⟨p5,r5,rfl,hx5,hr5⟩;have HX5:=Lib.hid (HX4.out.tr hx5);have HY5:=Lib.hid (HY4.out.tr hx5);have HR5:=Lib.hid (lst_lt hr5);have K5:=K4.ext hx5;clear hx5 hr5))
  go_wp2
  go_meet
  exact⟨p5,r5,rfl,rfl,HR5.out,by rw[←HW.out];exact(Below.refl _ _).dr.tr HY5.out⟩
 case rest=>
  obtain⟨sa,sc,rfl,rfl,HS,HXC⟩:=hcut;obtain⟨W,hW,ka,kb,kc,kf,hxw,hwz⟩:=box3 w #[.bool na,.slice a1 (limbs x).length c1,.slice a2 (denL d).length c2] #[.bool nb,.slice b1 (limbs y).length d1,.slice b2 (denL e).length d2] #[.bool false,.slice none 0 0,.slice none 0 0] 119 119 119;rw[←hW]at HXC;have HX0:=Lib.hid (hxw.tr HXC.out).dr;have K0:Six w.heap.size (.bool na) (.slice a1 (limbs x).length c1) (.slice a2 (denL d).length c2) (.bool nb) (.slice b1 (limbs y).length d1) (.slice b2 (denL e).length d2) wc.drew:=Six.ext ⟨⟨ka 0,ka 1,ka 2,kb 0,kb 1,kb 2⟩,by show _<W.heap.size;omega⟩ (HXC.out.dr);have HT0:Hid (Thr (w.heap.size+1+1) (.bool false) (.slice none 0 0) (.slice none 0 0) wc.drew):=Thr.ext (w:=W) ⟨kc 0,kc 1,kc 2,kf,hwz⟩ HXC.out.dr;have HS0:Hid (Rp.lst.rel (Lt wc.drew.heap.size) wc.drew [.slice sa (limbs (sumS na (x*e) nb (y*d)).2).length sc] (limbs (sumS na (x*e) nb (y*d)).2)):=lst_draw HS.out rfl;clear hW ka kb kc kf hxw;generalize hsv:sumS na (x*e) nb (y*d)=sv at*;have HSV:=Lib.hid hsv;clear hsv
  go_wp2
  go_region_held3 (fun w'=>w'.cell? ⟨w.heap.size,0,none⟩=some (.bool na)∧w'.cell? ⟨w.heap.size,1,none⟩=some (.slice a1 (limbs x).length c1)∧w'.cell? ⟨w.heap.size,2,none⟩=some (.slice a2 (denL d).length c2)∧w'.cell? ⟨w.heap.size+1,0,none⟩=some (.bool nb)∧w'.cell? ⟨w.heap.size+1,1,none⟩=some (.slice b1 (limbs y).length d1)∧w'.cell? ⟨w.heap.size+1,2,none⟩=some (.slice b2 (denL e).length d2)) (first | exact K4.1 | exact(((K4.set (by omega) (by omega)).set (by omega) (by omega)).set (by omega) (by omega)).1 | exact K3.1 | exact K2.1 | exact K1.1 | exact K0.1)
   (first
     | (go_at_call_of 170 (Value.agg #[Value.bool na,Value.slice a1 (limbs x).length c1,Value.slice a2 (denL d).length c2]);refine(belowE w _ HVA.out HX0.out HE.out.1).mono ?_;rintro e1 w1 ⟨p1,r1,rfl,hx1,hr1⟩;have HX1:=Lib.hid (HX0.out.tr hx1);have HR1:=Lib.hid hr1;have HS1:=Lib.hid (lst_ext HS0.out hx1);have HT1:=Lib.hid (HT0.out.ext hx1);have K1:=K0.ext hx1;clear hx1 hr1)
     | (go_at_call_of 170 (Value.agg #[Value.bool nb,Value.slice b1 (limbs y).length d1,Value.slice b2 (denL e).length d2]);refine(belowE w _ HVB.out HX1.out HE.out.2).mono ?_;rintro e2 w2 ⟨p2,r2,rfl,hx2,hr2⟩;have HX2:=Lib.hid (HX1.out.tr hx2);have HR2:=Lib.hid (lst_lt hr2);have HP2:=Lib.hid (lst_up HR1.out hx2);have HS2:=Lib.hid (lst_ext HS1.out hx2);have HT2:=Lib.hid (HT1.out.ext hx2);have K2:=K1.ext hx2;clear hx2 hr2)
     | (go_at_call 169;refine(mulL d e p1 p2 r1 r2 w2 HP2.out HR2.out HL.out.2.1 HL.out.2.2.2.1).mono ?_;rintro e3 w3 ⟨p3,r3,rfl,hx3,hr3⟩;have HX3:=Lib.hid (HX2.out.tr hx3);have HR3:=Lib.hid (lst_lt hr3);have HS3:=Lib.hid (lst_ext HS2.out hx3);have HT3:=Lib.hid (HT2.out.ext hx3);have K3:=K2.ext hx3;clear hx3 hr3)
     | (go_at_call 171;refine(madeL sv.2 (d*e) sa p3 sc r3 w3 sv.1 HS3.out HR3.out HL.out.2.2.2.2.2.2.2.1 HL.out.2.2.2.2.2.2.1 HL.out.2.2.2.2.2.2.2.2).mono ?_;rintro e4 w4 ⟨v4,rfl,hx4,hv4⟩;obtain⟨g0,gx,gd,g1,g2,g3,g4,rfl,q1,q2,q3,q4,q5⟩:=hv4.open;have HX4:=Lib.hid (HX3.out.tr hx4);have HQ4:=Lib.hid (And.intro q1 (And.intro q2 q3));have HQ5:=Lib.hid (And.intro q4 q5);have HZ4:=Lib.hid HX3.out.size;have HT4:=HT3.out.ext hx4;have t0:=HT4.c0;have t1:=HT4.c1;have t2:=HT4.c2;have t3:=HT4.fr;have t4:=HT4.lt;have K4:=K3.ext hx4;clear hx4 hv4 q1 q2 q3 q4 q5 HT4))
  go_wp2
  refine bodyPost_ret (v:= .agg #[.bool g0,.slice g1 (limbs gx).length g3,.slice g2 (denL gd).length g4]) (by simp[results,Tryz.results114,go_sem,t0,t1,t2]) rfl ?_;rw[HSUM.out];have hz:w.heap.size+1+1<w3.heap.size:=HT3.out.lt;refine⟨_,rfl,(((HX4.out).st (by show w.heap.size≤w.heap.size+1+1;omega) _).st (by show w.heap.size≤w.heap.size+1+1;omega) _).st (by show w.heap.size≤w.heap.size+1+1;omega) _,RatV.mk HQ4.out.1 HQ4.out.2.1 HQ4.out.2.2 (lst_to HQ5.out.1 ?_) (lst_to HQ5.out.2 ?_)⟩
  all_goals
   intro b hb;have h1:w3.heap.size≤b:=hb.1.resolve_left id;have h2:b<w4.heap.size:=hb.2;exact⟨⟨.inr (by omega),by simp[World.setCell];omega⟩,by rw[far_cell (by omega),far_cell (by omega),far_cell (by omega)]⟩
theorem mulR_any(va vb:Value)(p q:Rat)(w:World)(k m:Nat)(ha:RatV (Lt w.heap.size) w va p)(hb:RatV (Lt w.heap.size) w vb q)(h1:Bd k p)(h2:Bd m q)(hk:k+m≤50000000):
  Calls Tryz.prog 115 #[va,vb] w (RatAns (p*q) no w):=by
 have HVA:=Lib.hid ha;have HVB:=Lib.hid hb;obtain⟨na,x,d,a1,a2,c1,c2,rfl,e1,e2,e3,r1,r2⟩:=ha.open;obtain⟨nb,y,e,b1,b2,d1,d2,rfl,e4,e5,e6,r3,r4⟩:=hb.open;have hpq:=rat_mul_sgn e1 e2 e3 e4 e5 e6;obtain⟨s,hs⟩:∃ s,s=(na != nb):=⟨_,rfl⟩
 rw[←hs]at hpq;have HPQ:=Lib.hid hpq;have hxl:=bd_len (e2▸h1.1) (by omega);have hdl:=bd_len (e3▸h1.2) (by omega);have hyl:=bd_len (e5▸h2.1) (by omega);have hel:=bd_len (e6▸h2.2) (by omega);have hxy:=bd_len (lt_pow_mul (e2▸h1.1:x<2^k) (e5▸h2.1:y<2^m)) (by omega);have hde:=bd_len (lt_pow_mul (e3▸h1.2:d<2^k) (e6▸h2.2:e<2^m)) (by omega);have hdp:0<d*e:=Nat.mul_pos (by rw[←e3];exact Nat.pos_of_ne_zero p.den_nz) (by rw[←e6];exact Nat.pos_of_ne_zero q.den_nz);have HE:=Lib.hid (And.intro e3 e6);have R1:=Lib.hid r1;have R3:=Lib.hid r3;have HL:=Lib.hid (And.intro hxl (And.intro hdl (And.intro hyl (And.intro hel (And.intro hxy (And.intro hde hdp))))));clear r1 r2 r3 r4 ha hb e1 e2 e3 e4 e5 e6 h1 h2 hxl hdl hyl hel hxy hde hdp hk hpq;have hs2:(na != nb)=s:=hs.symm;have hs3:(!(na==nb))=s:=hs.symm;clear hs
 go_enter Tryz.func115,Tryz.ntmps115
 go_wp2
 obtain⟨W,hW,ka,kb,kc,kf,hxw,hwz⟩:=box3 w #[.bool na,.slice a1 (limbs x).length c1,.slice a2 (denL d).length c2] #[.bool nb,.slice b1 (limbs y).length d1,.slice b2 (denL e).length d2] #[.bool false,.slice none 0 0,.slice none 0 0] 119 119 119;rw[←hW];have HX0:=Lib.hid hxw.dr;have K0:Six w.heap.size (.bool na) (.slice a1 (limbs x).length c1) (.slice a2 (denL d).length c2) (.bool nb) (.slice b1 (limbs y).length d1) (.slice b2 (denL e).length d2) W.drew:=⟨⟨ka 0,ka 1,ka 2,kb 0,kb 1,kb 2⟩,by show _<W.heap.size;omega⟩
 have HT0:Hid (Thr (w.heap.size+1+1) (.bool false) (.slice none 0 0) (.slice none 0 0) W.drew):=Thr.ext (w:=W) ⟨kc 0,kc 1,kc 2,kf,hwz⟩ (Below.refl _ _).dr;clear hW ka kb kc kf hxw
 go_region_held3 (fun w'=>w'.cell? ⟨w.heap.size,0,none⟩=some (.bool na)∧w'.cell? ⟨w.heap.size,1,none⟩=some (.slice a1 (limbs x).length c1)∧w'.cell? ⟨w.heap.size,2,none⟩=some (.slice a2 (denL d).length c2)∧w'.cell? ⟨w.heap.size+1,0,none⟩=some (.bool nb)∧w'.cell? ⟨w.heap.size+1,1,none⟩=some (.slice b1 (limbs y).length d1)∧w'.cell? ⟨w.heap.size+1,2,none⟩=some (.slice b2 (denL e).length d2)) (first | exact K6.1 | exact(((K6.set (by omega) (by omega)).set (by omega) (by omega)).set (by omega) (by omega)).1 | exact K5.1 | exact(((K5.set (by omega) (by omega)).set (by omega) (by omega)).set (by omega) (by omega)).1 | exact K4.1 | exact K3.1 | exact K2.1 | exact K1.1 | exact K0.1)
  (first
    | (go_at_call_of 169 (Value.slice a1 (limbs x).length c1);refine(mulL x y a1 b1 c1 d1 _ (lst_ext R1.out HX0.out) (lst_ext R3.out HX0.out) HL.out.1 HL.out.2.2.1).mono ?_;rintro e1 w1 ⟨p1,r1,rfl,hx1,hr1⟩;have HX1:=Lib.hid (HX0.out.tr hx1);have HR1:=Lib.hid (lst_lt hr1);have HT1:=Lib.hid (HT0.out.ext hx1);have K1:=K0.ext hx1;clear hx1 hr1)
    | (go_at_call_of 170 (Value.agg #[Value.bool na,Value.slice a1 (limbs x).length c1,Value.slice a2 (denL d).length c2]);refine(belowE w _ HVA.out HX1.out HE.out.1).mono ?_;rintro e2 w2 ⟨p2,r2,rfl,hx2,hr2⟩;have HX2:=Lib.hid (HX1.out.tr hx2);have HR2:=Lib.hid (lst_lt hr2);have HP2:=Lib.hid (lst_ext HR1.out hx2);have HT2:=Lib.hid (HT1.out.ext hx2);have K2:=K1.ext hx2;clear hx2 hr2)
    | (go_at_call_of 170 (Value.agg #[Value.bool nb,Value.slice b1 (limbs y).length d1,Value.slice b2 (denL e).length d2]);refine(belowE w _ HVB.out HX2.out HE.out.2).mono ?_;rintro e3 w3 ⟨p3,r3,rfl,hx3,hr3⟩;have HX3:=Lib.hid (HX2.out.tr hx3);have HR3:=Lib.hid (lst_lt hr3);have HP3:=Lib.hid (lst_ext HP2.out hx3);have HQ3:=Lib.hid (lst_ext HR2.out hx3);have HT3:=Lib.hid (HT2.out.ext hx3);have K3:=K2.ext hx3;clear hx3 hr3)
    | (go_at_call_of 169 (Value.slice p2 (limbs d).length r2);refine(mulL d e p2 p3 r2 r3 w3 HQ3.out HR3.out HL.out.2.1 HL.out.2.2.2.1).mono ?_;rintro e4 w4 ⟨p4,r4,rfl,hx4,hr4⟩;have HX4:=Lib.hid (HX3.out.tr hx4);have HR4:=Lib.hid (lst_lt hr4);have HP4:=Lib.hid (lst_ext HP3.out hx4);have HT4:=Lib.hid (HT3.out.ext hx4);have K4:=K3.ext hx4;clear hx4 hr4)
    | (go_at_call 171;refine(madeL (x*y) (d*e) p1 p4 r1 r4 w4 s HP4.out HR4.out HL.out.2.2.2.2.1 HL.out.2.2.2.2.2.1 HL.out.2.2.2.2.2.2).mono ?_;rintro e5 w5 ⟨v5,rfl,hx5,hv5⟩;obtain⟨g0,gx,gd,g1,g2,g3,g4,rfl,q1,q2,q3,q4,q5⟩:=hv5.open;have HX5:=Lib.hid (HX4.out.tr hx5);have HQ4:=Lib.hid (And.intro q1 (And.intro q2 q3));have HQ5:=Lib.hid (And.intro q4 q5);have HT5:=HT4.out.ext hx5;have t0:=HT5.c0;have t1:=HT5.c1;have t2:=HT5.c2;have t3:=HT5.fr;have t4:=HT5.lt;have K5:=K4.ext hx5;clear hx5 hv5 q1 q2 q3 q4 q5 HT5))
 go_wp2
 refine bodyPost_ret (v:= .agg #[.bool g0,.slice g1 (limbs gx).length g3,.slice g2 (denL gd).length g4]) (by simp[results,Tryz.results115,go_sem,t0,t1,t2]) rfl ?_;rw[HPQ.out];have hz:w.heap.size+1+1<w4.heap.size:=HT4.out.lt;refine⟨_,rfl,(((HX5.out).st (by show w.heap.size≤w.heap.size+1+1;omega) _).st (by show w.heap.size≤w.heap.size+1+1;omega) _).st (by show w.heap.size≤w.heap.size+1+1;omega) _,RatV.mk HQ4.out.1 HQ4.out.2.1 HQ4.out.2.2 (lst_to HQ5.out.1 ?_) (lst_to HQ5.out.2 ?_)⟩
 all_goals
  intro b hb;have h1:w4.heap.size≤b:=hb.1.resolve_left id;have h2:b<w5.heap.size:=hb.2;exact⟨⟨.inr (by omega),by simp[World.setCell];omega⟩,by rw[far_cell (by omega),far_cell (by omega),far_cell (by omega)]⟩
theorem box2(w:World)(A C:Array Value)(T V:TypeId):∃ W,W=(w.alloc (.cells A T)).alloc (.cells C V)∧(∀i,W.cell? ⟨w.heap.size,i,none⟩=A[i]?)∧(∀i,W.cell? ⟨w.heap.size+1,i,none⟩=C[i]?)∧
  (∀i,W.frozen? ⟨w.heap.size+1,i,none⟩=false)∧Ext w W∧w.heap.size+1<W.heap.size:=by
 have e1:(w.alloc (.cells A T)).heap.size=w.heap.size+1:=by simp
 refine⟨_,rfl,fun i=>?_,fun i=>?_,fun i=>?_,((Below.refl _ _).al _).al _,by simp⟩
 ·have h:Ext (w.alloc (.cells A T)) ((w.alloc (.cells A T)).alloc (.cells C V)):=(Below.refl _ _).al _;rw[(bcell h).1 _ _ (by simp),cell_new]
 ·rw[←e1,cell_new]
 ·rw[←e1,froz_new]
def Tri(B:Nat)(v0 v1 v2:Value)(w':World):Prop:=
 (w'.cell? ⟨B,0,none⟩=some v0∧w'.cell? ⟨B,1,none⟩=some v1∧w'.cell? ⟨B,2,none⟩=some v2)∧B<w'.heap.size
theorem Tri.ext{B:Nat}{v0 v1 v2:Value}{w w':World}(h:Tri B v0 v1 v2 w)(hx:Ext w w'):Tri B v0 v1 v2 w':=by
 obtain⟨⟨h0,h1,h2⟩,hz⟩:=h;have hc:=(bcell hx).1;exact⟨⟨(hc _ _ hz).trans h0,(hc _ _ hz).trans h1,(hc _ _ hz).trans h2⟩,Nat.lt_of_lt_of_le hz hx.size⟩
theorem Tri.set{B g o:Nat}{v v0 v1 v2:Value}{w:World}(h:Tri B v0 v1 v2 w)(h1:B≠g):Tri B v0 v1 v2 (w.setCell ⟨g,o,none⟩ v):=by
 have e1:∀ j,(w.setCell ⟨g,o,none⟩ v).cell? ⟨B,j,none⟩=w.cell? ⟨B,j,none⟩:=fun j=>World.cell?_of_block (far_cell h1);unfold Tri at*;rw[e1,e1,e1];exact⟨h.1,by simpa[World.setCell] using h.2⟩
theorem negE{v:Value}{q:Rat}(w0 w:World)(h:RatV (Lt w0.heap.size) w0 v q)(hx:Ext w0 w):Calls Tryz.prog 161 #[v] w (RatAns (-q) (Lt w0.heap.size) w):=
 neg_any v q w _ (fun _ hb=>Nat.lt_of_lt_of_le hb hx.size) (h.keep fun b hb=>⟨hb,hx.block b hb⟩)
theorem RatV.lt{S:Nat→Prop}{w:World}{v:Value}{q:Rat}{n:Nat}(h:RatV (Mo S n w) w v q):RatV (Lt w.heap.size) w v q:=h.mono fun _ hb=>hb.2
def RatAns2(q:Rat)(y:Bool)(S:Nat→Prop)(w:World):Ending→World→Prop:=fun e w'=>∃ v,e= .returned (.tuple #[v,.bool y])∧Ext w w'∧RatV (Mo S w.heap.size w') w' v q
theorem subR_any(va vb:Value)(p q:Rat)(w:World)(k m:Nat)(ha:RatV (Lt w.heap.size) w va p)(hb:RatV (Lt w.heap.size) w vb q)(h1:Bd k p)(h2:Bd m q)(hk:k+m≤50000000):
  Calls Tryz.prog 104 #[va,vb] w (RatAns (p-q) no w):=by
 have HVA:=Lib.hid ha;have HVB:=Lib.hid hb;obtain⟨na,x,d,a1,a2,c1,c2,rfl,e1,e2,e3,r1,r2⟩:=ha.open;obtain⟨nb,y,e,b1,b2,d1,d2,rfl,e4,e5,e6,r3,r4⟩:=hb.open;have HPQ:=Lib.hid (Rat.sub_eq_add_neg p q);have HL:=Lib.hid (And.intro h1 (And.intro h2.neg hk));clear r1 r2 r3 r4 ha hb e1 e2 e3 e4 e5 e6 h1 h2 hk
 go_enter Tryz.func104,Tryz.ntmps104
 go_wp2
 obtain⟨W,hW,ka,kb,kc,kf,hxw,hwz⟩:=box3 w #[.bool na,.slice a1 (limbs x).length c1,.slice a2 (denL d).length c2] #[.bool nb,.slice b1 (limbs y).length d1,.slice b2 (denL e).length d2] #[.bool false,.slice none 0 0,.slice none 0 0] 119 119 119;rw[←hW];have HX0:=Lib.hid hxw.dr;have K0:Six w.heap.size (.bool na) (.slice a1 (limbs x).length c1) (.slice a2 (denL d).length c2) (.bool nb) (.slice b1 (limbs y).length d1) (.slice b2 (denL e).length d2) W.drew:=⟨⟨ka 0,ka 1,ka 2,kb 0,kb 1,kb 2⟩,by show _<W.heap.size;omega⟩
 have HT0:Hid (Thr (w.heap.size+1+1) (.bool false) (.slice none 0 0) (.slice none 0 0) W.drew):=Thr.ext (w:=W) ⟨kc 0,kc 1,kc 2,kf,hwz⟩ (Below.refl _ _).dr;clear hW ka kb kc kf hxw
 go_region_held3 (fun w'=>w'.cell? ⟨w.heap.size,0,none⟩=some (.bool na)∧w'.cell? ⟨w.heap.size,1,none⟩=some (.slice a1 (limbs x).length c1)∧w'.cell? ⟨w.heap.size,2,none⟩=some (.slice a2 (denL d).length c2)∧w'.cell? ⟨w.heap.size+1,0,none⟩=some (.bool nb)∧w'.cell? ⟨w.heap.size+1,1,none⟩=some (.slice b1 (limbs y).length d1)∧w'.cell? ⟨w.heap.size+1,2,none⟩=some (.slice b2 (denL e).length d2)) (first | exact K2.1 | exact(((K2.set (by omega) (by omega)).set (by omega) (by omega)).set (by omega) (by omega)).1 | exact K5.1 | exact(((K5.set (by omega) (by omega)).set (by omega) (by omega)).set (by omega) (by omega)).1 | exact K4.1 | exact K3.1 | exact K2.1 | exact K1.1 | exact K0.1)
  (first
    | (go_at_call 161;refine(negE w _ HVB.out HX0.out).mono ?_;rintro e1 w1 ⟨v1,rfl,hx1,hv1⟩;have HX1:=Lib.hid (HX0.out.tr hx1);have HV1:=Lib.hid hv1.lt;have HT1:=Lib.hid (HT0.out.ext hx1);have K1:=K0.ext hx1;obtain⟨nn,nx,nd,n1,n2,n3,n4,rfl,z1,z2,z3,z4,z5⟩:=hv1.open;clear hx1 hv1 z1 z2 z3 z4 z5)
    | (go_at_call 114;refine(addR_any _ _ p (-q) w1 k m (HVA.out.below HX1.out) HV1.out HL.out.1 HL.out.2.1 HL.out.2.2).mono ?_;rintro e2 w2 ⟨v2,rfl,hx2,hv2⟩;obtain⟨g0,gx,gd,g1,g2,g3,g4,rfl,q1,q2,q3,q4,q5⟩:=hv2.open;have HX2:=Lib.hid (HX1.out.tr hx2);have HQ4:=Lib.hid (And.intro q1 (And.intro q2 q3));have HQ5:=Lib.hid (And.intro q4 q5);have HT2:=HT1.out.ext hx2;have t0:=HT2.c0;have t1:=HT2.c1;have t2:=HT2.c2;have t3:=HT2.fr;have t4:=HT2.lt;have K2:=K1.ext hx2;clear hx2 hv2 q1 q2 q3 q4 q5 HT2))
 go_wp2
 refine bodyPost_ret (v:= .agg #[.bool g0,.slice g1 (limbs gx).length g3,.slice g2 (denL gd).length g4]) (by simp[results,Tryz.results104,go_sem,t0,t1,t2]) rfl ?_;rw[HPQ.out];have hz:w.heap.size+1+1<w1.heap.size:=HT1.out.lt;refine⟨_,rfl,(((HX2.out).st (by show w.heap.size≤w.heap.size+1+1;omega) _).st (by show w.heap.size≤w.heap.size+1+1;omega) _).st (by show w.heap.size≤w.heap.size+1+1;omega) _,RatV.mk HQ4.out.1 HQ4.out.2.1 HQ4.out.2.2 (lst_to HQ5.out.1 ?_) (lst_to HQ5.out.2 ?_)⟩
 all_goals
  intro b hb;have h1:w1.heap.size≤b:=hb.1.resolve_left id;have h2:b<w2.heap.size:=hb.2;exact⟨⟨.inr (by omega),by simp[World.setCell];omega⟩,by rw[far_cell (by omega),far_cell (by omega),far_cell (by omega)]⟩
theorem cmpR_any(va vb:Value)(p q:Rat)(w:World)(k m:Nat)(ha:RatV (Lt w.heap.size) w va p)(hb:RatV (Lt w.heap.size) w vb q)(h1:Bd k p)(h2:Bd m q)(hk:k+m≤50000000):
  Calls Tryz.prog 51 #[va,vb] w fun e w'=>e= .returned (.int .i64 (sgnR (p-q)))∧Ext w w':=by
 have HVA:=Lib.hid ha;have HVB:=Lib.hid hb;obtain⟨na,x,d,a1,a2,c1,c2,rfl,e1,e2,e3,r1,r2⟩:=ha.open;obtain⟨nb,y,e,b1,b2,d1,d2,rfl,e4,e5,e6,r3,r4⟩:=hb.open;have HL:=Lib.hid (And.intro h1 (And.intro h2 hk));clear r1 r2 r3 r4 ha hb e1 e2 e3 e4 e5 e6 h1 h2 hk
 go_enter Tryz.func51,Tryz.ntmps51
 have HXW:Hid (Ext w ((w.alloc (Obj.cells #[.bool na,.slice a1 (limbs x).length c1,.slice a2 (denL d).length c2] 119)).alloc (Obj.cells #[.bool nb,.slice b1 (limbs y).length d1,.slice b2 (denL e).length d2] 119))):=((Below.refl _ _).al _).al _
 go_wp2_with fail
 refine(subR_any _ _ p q _ k m (HVA.out.below HXW.out) (HVB.out.below HXW.out) HL.out.1 HL.out.2.1 HL.out.2.2).mono ?_;rintro e1 w1 ⟨v1,rfl,hx1,hv1⟩;have HX1:=Lib.hid (HXW.out.tr hx1);have HS:=Lib.hid (sign_any v1 _ w1 _ hv1);obtain⟨nn,nx,nd,n1,n2,n3,n4,rfl,z1,z2,z3,z4,z5⟩:=hv1.open;clear hx1 hv1 z1 z2 z3 z4 z5
 go_wp2_with fail
 refine HS.out.mono ?_;rintro e2 w2 ⟨rfl,hx2⟩;have HX2:=Lib.hid (HX1.out.tr hx2);clear hx2
 go_wp2_with fail
 go_ret
 exact⟨rfl,HX2.out⟩
theorem make_any(neg:Bool)(l m:List Nat)(a a':Option Addr)(n n' c c':Nat)(w:World)(h:Rp.lst.rel (Lt w.heap.size) w [.slice a n c] l)(h':Rp.lst.rel (Lt w.heap.size) w [.slice a' n' c'] m)
  (hl:l.length≤100000000) (hm:m.length≤100000000) (hy:0<dval 4294967296 m):
  Calls Tryz.prog 166 #[.bool neg,.slice a n c,.slice a' n' c'] w (RatAns2 (mkRat (sgn neg (dval 4294967296 l)) (dval 4294967296 m)) true no w):=by
 have HX0:Hid (Ext w (w.alloc (Obj.cells #[.bool false,.slice none 0 0,.slice none 0 0] 119))):=(Below.refl _ _).al _;have HB:=Lib.hid (bits_pos m a' n' c' (w.alloc (Obj.cells #[.bool false,.slice none 0 0,.slice none 0 0] 119)) _ (lst_ext h' HX0.out) hy hm);have HM:=Lib.hid (made_any neg l m a a' n n' c c' (w.alloc (Obj.cells #[.bool false,.slice none 0 0,.slice none 0 0] 119)) (lst_ext h HX0.out) (lst_ext h' HX0.out) hl hm hy);clear h h' hy
 go_enter Tryz.func166,Tryz.ntmps166
 go_wp2_with fail
 refine HB.out.mono ?_;rintro e0 w0 ⟨⟨bb,hb0,rfl⟩,rfl⟩;have hb1:(bb==0)=false:=by rw[beq_eq_false_iff_ne];omega
 go_wp2_with fail
 refine HM.out.mono ?_;rintro e1 w1 ⟨v1,rfl,hx1,hv1⟩;obtain⟨g0,gx,gd,g1,g2,g3,g4,rfl,q1,q2,q3,q4,q5⟩:=hv1.open;have HX1:=Lib.hid (HX0.out.tr hx1);have HQ4:=Lib.hid (And.intro q1 (And.intro q2 q3));have HQ5:=Lib.hid (And.intro q4 q5);have HT0:Thr w.heap.size (.bool false) (.slice none 0 0) (.slice none 0 0) (w.alloc (Obj.cells #[.bool false,.slice none 0 0,.slice none 0 0] 119)):=⟨by rw[cell_new];rfl,by rw[cell_new];rfl,by rw[cell_new];rfl,fun o=>froz_new _ _ _ _,by simp⟩
 have HT1:=HT0.ext hx1;have t0:=HT1.c0;have t1:=HT1.c1;have t2:=HT1.c2;have t3:=HT1.fr;have t4:=HT1.lt;clear hx1 hv1 q1 q2 q3 q4 q5 HT0 HT1
 go_wp2
 refine bodyPost_ret (v:= .tuple #[.agg #[.bool g0,.slice g1 (limbs gx).length g3,.slice g2 (denL gd).length g4],.bool true]) (by simp[results,Tryz.results166,go_sem,t0,t1,t2]) rfl ?_;refine⟨_,rfl,(((HX1.out).st (Nat.le_refl _) _).st (Nat.le_refl _) _).st (Nat.le_refl _) _,RatV.mk HQ4.out.1 HQ4.out.2.1 HQ4.out.2.2 (lst_to HQ5.out.1 ?_) (lst_to HQ5.out.2 ?_)⟩
 all_goals
  intro b hb;have h1:(w.alloc (Obj.cells #[.bool false,.slice none 0 0,.slice none 0 0] 119)).heap.size≤b:=hb.1.resolve_left id;have h2:b<w1.heap.size:=hb.2;simp at h1;exact⟨⟨.inr (by omega),by simp[World.setCell];omega⟩,by rw[far_cell (by omega),far_cell (by omega),far_cell (by omega)]⟩
def PartsAns(nb:Bool)(x d:Nat)(w:World):Ending→World→Prop:=fun e w'=>∃ a c a' c',e= .returned (.tuple #[.bool nb,.slice a (limbs x).length c,.slice a' (limbs d).length c'])∧Ext w w'∧
 Rp.lst.rel (Mo no w.heap.size w') w' [.slice a (limbs x).length c] (limbs x)∧Rp.lst.rel (Mo no w.heap.size w') w' [.slice a' (limbs d).length c'] (limbs d)
theorem normL(x:Nat)(a:Option Addr)(c:Nat)(w:World)(h:Rp.lst.rel (Lt w.heap.size) w [.slice a (limbs x).length c] (limbs x))(hl:(limbs x).length≤100000000):
  Calls Tryz.prog 160 #[.slice a (limbs x).length c] w (NatAns x w):=by
 have:=norm_any (limbs x) a _ c w _ h (by omega);rwa[limbs_val]at this
theorem parts_any(va:Value)(p:Rat)(w:World)(k:Nat)(ha:RatV (Lt w.heap.size) w va p)(h1:Bd k p)(hk:k≤100000000):
  Calls Tryz.prog 118 #[va] w (PartsAns (decide (p.num<0)) p.num.natAbs p.den w):=by
 have HVA:=Lib.hid ha;obtain⟨na,x,d,a1,a2,c1,c2,rfl,e1,e2,e3,r1,r2⟩:=ha.open;rw[e1,e2,e3];have hxl:=bd_len (e2▸h1.1) hk;have hdl:=bd_len (e3▸h1.2) hk;have HE:=Lib.hid e3;have R1:=Lib.hid r1;have HL:=Lib.hid (And.intro hxl hdl);clear r1 r2 ha e1 e2 e3 h1 hxl hdl hk;have HX0:Hid (Ext w (w.alloc (Obj.cells #[.bool na,.slice a1 (limbs x).length c1,.slice a2 (denL d).length c2] 119)).drew):=((Below.refl _ _).al _).dr;have K0:Tri w.heap.size (.bool na) (.slice a1 (limbs x).length c1) (.slice a2 (denL d).length c2) (w.alloc (Obj.cells #[.bool na,.slice a1 (limbs x).length c1,.slice a2 (denL d).length c2] 119)).drew:=⟨⟨by show World.cell? (w.alloc _) _=_;rw[cell_new];rfl,by show World.cell? (w.alloc _) _=_;rw[cell_new];rfl,by show World.cell? (w.alloc _) _=_;rw[cell_new];rfl⟩,by show _<(w.alloc _).heap.size;simp⟩
 go_enter Tryz.func118,Tryz.ntmps118
 go_wp2
 go_region_held3 (fun w'=>w'.cell? ⟨w.heap.size,0,none⟩=some (.bool na)∧w'.cell? ⟨w.heap.size,1,none⟩=some (.slice a1 (limbs x).length c1)∧w'.cell? ⟨w.heap.size,2,none⟩=some (.slice a2 (denL d).length c2)) (first | exact K3.1 | exact K2.1 | exact K1.1 | exact K0.1)
  (first
    | (go_at_call_of 160 (Value.slice a1 (limbs x).length c1);refine(normL x a1 c1 _ (lst_ext R1.out HX0.out) HL.out.1).mono ?_;rintro e1 w1 ⟨p1,r1,rfl,hx1,hr1⟩;have HX1:=Lib.hid (HX0.out.tr hx1);have HR1:=Lib.hid (lst_to (S':=Mo no w.heap.size w1) (w':=w1) hr1 fun b hb=>⟨mo_up HX0.out b hb,rfl⟩);have K1:=K0.ext hx1;clear hx1 hr1)
    | (go_at_call 170;refine(belowE w w1 HVA.out HX1.out HE.out).mono ?_;rintro e2 w2 ⟨p2,r2,rfl,hx2,hr2⟩;have HX2:=Lib.hid (HX1.out.tr hx2);have HR2:=Lib.hid (lst_lt hr2);have HP2:=Lib.hid (lst_to (S':=Mo no w.heap.size w2) (w':=w2) HR1.out fun b hb=>⟨⟨hb.1,Nat.lt_of_lt_of_le hb.2 hx2.size⟩,hx2.block b hb.2⟩);have K2:=K1.ext hx2;clear hx2 hr2)
    | (go_at_call_of 160 (Value.slice p2 (limbs d).length r2);refine(normL d p2 r2 w2 HR2.out HL.out.2).mono ?_;rintro e3 w3 ⟨p3,r3,rfl,hx3,hr3⟩;have HX3:=Lib.hid (HX2.out.tr hx3);have HR3:=Lib.hid (lst_to (S':=Mo no w.heap.size w3) (w':=w3) hr3 fun b hb=>⟨mo_up HX2.out b hb,rfl⟩);have HP3:=Lib.hid (lst_to (S':=Mo no w.heap.size w3) (w':=w3) HP2.out fun b hb=>⟨⟨hb.1,Nat.lt_of_lt_of_le hb.2 hx3.size⟩,hx3.block b hb.2⟩);have K3:=K2.ext hx3;clear hx3 hr3))
 go_wp2
 go_ret3
 exact⟨p1,r1,p3,r3,rfl,HX3.out,HP3.out,HR3.out⟩
end Go.Proofs.YthdkkpocihkgbaaGreatDoor
