import Derived.Test.YtbbpecfapohlaaaGreatDoorNumL
namespace Go.Proofs.YtbbpecfapohlaaaGreatDoor
open Go.RowKit
theorem lst_to{S S':Nat→Prop}{w w':World}{cs:List Value}{l:List Nat}(h:Rp.lst.rel S w cs l)(hs:∀ b,S b→S' b∧w'.heap[b]?=w.heap[b]?):Rp.lst.rel S' w' cs l:=(Rp.slice _).keep h hs
theorem limbs_one_len{y:Nat}(h:(limbs y).length=1):limbs y=[y]∧y<4294967296:=by
 obtain⟨d,hd⟩:=List.length_eq_one_iff.1 h
 have h1:=limbs_val y
 have h2:=limbs_dg y
 rw[hd]at h1 h2 ⊢
 simp only[dval_cons,dval_nil]at h1
 have:d=y:=by omega
 subst this
 exact⟨rfl,h2 d (by simp)⟩
theorem limbs_eq_nil{y:Nat}:limbs y=[]↔y=0:=digs_eq_nil (by decide)
set_option maxRecDepth 100000 in
set_option maxHeartbeats 800000 in
theorem divmod_any(l m:List Nat)(a a':Option Addr)(n n' c c':Nat)(w:World)(h:Rp.lst.rel (Lt w.heap.size) w [.slice a n c] l)(h':Rp.lst.rel (Lt w.heap.size) w [.slice a' n' c'] m)
  (hl:l.length≤100000000) (hm:m.length≤100000000) (hy:0<dval 4294967296 m):
  Calls Tryz.prog 275 #[.slice a n c,.slice a' n' c'] w (DivAns (dval 4294967296 l) (dval 4294967296 m) no w):=by
 obtain⟨rfl,h1,h2⟩:=lst_len h
 obtain⟨rfl,h1',h2'⟩:=lst_len h'
 have hpl:(limbs (dval 4294967296 l)).length≤l.length:=(digs_take_len (B:=4294967296) (by decide) (lst_dg h)).2
 have hql:(limbs (dval 4294967296 m)).length≤m.length:=(digs_take_len (B:=4294967296) (by decide) (lst_dg h')).2
 have H1:=Lib.hid h;clear h
 have H2:=Lib.hid h';clear h'
 have HN1:=Lib.hid (norm_any l a _ c w _ H1.out (by omega))
 go_enter Tryz.func275,Tryz.ntmps275
 go_wp2_with fail
 refine HN1.out.mono ?_
 rintro e w1 ⟨b1,d1,rfl,hx1,hr1⟩
 have HX1:=Lib.hid hx1
 have HN2:=Lib.hid (norm_any m a' _ c' w1 _ ((Rp.slice _).below H2.out hx1 hx1.size) (by omega))
 have HR1:=Lib.hid hr1
 clear hx1 hr1 HN1
 go_wp2_with fail
 refine HN2.out.mono ?_
 rintro e w2 ⟨b2,d2,rfl,hx2,hr2⟩
 have HX2:=Lib.hid (HX1.out.tr hx2)
 have hsz:=HX1.out.size
 have HR1':=Lib.hid (lst_to (S':=Mo no w.heap.size w2) (w':=w2) HR1.out fun b hb=>⟨⟨hb.1,Nat.lt_of_lt_of_le hb.2 hx2.size⟩,hx2.block b hb.2⟩)
 have HR1L:=Lib.hid (lst_to (S':=Lt w2.heap.size) (w':=w2) HR1'.out fun b hb=>⟨hb.2,rfl⟩)
 have HR2L:=Lib.hid (lst_to (S':=Lt w2.heap.size) (w':=w2) hr2 fun b hb=>⟨hb.2,rfl⟩)
 clear hx2 hr2 HN2 HR1 H1 H2 h1 h2 h1' h2'
 generalize hx:dval 4294967296 l=x at*
 generalize hyy:dval 4294967296 m=y at*
 clear hx hyy
 have hy1:0<(limbs y).length:=by
  rcases Nat.eq_zero_or_pos (limbs y).length with h0 | h0
  ·have:=limbs_eq_nil.1 (List.eq_nil_of_length_eq_zero h0);omega
  ·exact h0
 have hyn:¬ limbs y=[]:=fun e=>by rw[e]at hy1;simp at hy1
 have hyb:((limbs y).length==0)=false:=by rw[beq_eq_false_iff_ne];omega
 have hyb2:(((limbs y).length:Int)==0)=false:=by rw[beq_eq_false_iff_ne];omega
 have hcm:=cmp_any (limbs x) (limbs y) b1 b2 _ _ d1 d2 w2 _ _ HR1L.out HR2L.out
 rw[limbs_val,limbs_val]at hcm
 have HCM:=Lib.hid hcm
 clear hcm
 go_wp2_with fail
 refine HCM.out.mono ?_
 rintro e w3 ⟨rfl,qq,rfl⟩
 have HR1D:=Lib.hid (Rp.drN _ HR1L.out qq)
 have HR2D:=Lib.hid (Rp.drN _ HR2L.out qq)
 have HX3:=Lib.hid (HX2.out.drN qq)
 by_cases hlt:x<y
 ·rw[cmpN_lt hlt]
  have HE:Hid (x / y=0∧x % y=x):=⟨Nat.div_eq_of_lt hlt,Nat.mod_eq_of_lt hlt⟩
  go_wp2
  go_ret3
  refine⟨none,0,b1,d1,?_,HX3.out,?_,?_⟩
  ·rw[HE.out.1,HE.out.2,limbs_zero];rfl
  ·rw[HE.out.1,limbs_zero];exact rel_nil
  ·rw[HE.out.2]
   exact Rp.drN _ HR1'.out qq
 ·have hc:0≤cmpN x y:=by unfold cmpN;rw[if_neg hlt];split<;>omega
  generalize cmpN x y=cm at*
  by_cases h1:(limbs y).length=1
  ·obtain⟨e1,e2⟩:=limbs_one_len h1
   obtain⟨bb,oo,rfl,_,g1,_⟩:=oneU.get HR2D.out 0 (by omega)
   have g1':(w2.drewN qq).cell? ⟨bb,oo,none⟩=some (.int .u32 (y:Int)):=by
    have e3:(limbs y)[0]'(by omega)=y:=by rw[List.getElem_of_eq e1];rfl
    rw[e3]at g1
    exact g1
   have h1b:(((limbs y).length:Int)==1)=true:=by rw[beq_iff_eq];omega
   have hdw:=divword_any (limbs x) y b1 _ d1 (w2.drewN qq) HR1D.out (by omega) hy e2
   rw[limbs_val]at hdw
   have HDW:=Lib.hid hdw
   have HE1:=Lib.hid e1
   clear e1 g1 h1 hdw
   go_wp2_with fail
   refine HDW.out.mono ?_
   rintro e w4 ⟨qa,qc,rfl,hx4,hr4⟩
   have HX4:=Lib.hid (HX3.out.tr hx4)
   have hz4:w.heap.size≤w2.heap.size:=HX2.out.size
   have HR4:=Lib.hid hr4
   clear hx4 hr4 HDW
   have hm1:x % y<4294967296:=Nat.lt_trans (Nat.mod_lt _ hy) e2
   have HWD:=Lib.hid (word_any (x % y) w4 (by omega))
   generalize hmm:x % y=r at*
   have HMM:=Lib.hid hmm
   clear hmm
   go_wp2_with fail
   refine HWD.out.mono ?_
   rintro e w5 ⟨ra,rc,rfl,hx5,hr5⟩
   have HX5:=Lib.hid (HX4.out.tr hx5)
   have hz5:w.heap.size≤w4.heap.size:=HX4.out.size
   have HR5:=Lib.hid (lst_to (S':=Mo no w.heap.size w5) (w':=w5) hr5 fun b hb=>⟨⟨.inr (Nat.le_trans hz5 (hb.1.resolve_left id)),hb.2⟩,rfl⟩)
   have HR6:=Lib.hid (lst_to (S':=Mo no w.heap.size w5) (w':=w5) HR4.out fun b hb=>⟨⟨.inr (Nat.le_trans hz4 (hb.1.resolve_left id)),Nat.lt_of_lt_of_le hb.2 hx5.size⟩,hx5.block b hb.2⟩)
   clear hx5 hr5
   go_wp2_with fail
   go_ret3
   refine⟨qa,qc,ra,rc,?_,HX5.out,?_,?_⟩
   ·rw[HMM.out];rfl
   ·exact HR6.out
   ·rw[HMM.out];exact HR5.out
  ·have h1b:(((limbs y).length:Int)==1)=false:=by rw[beq_eq_false_iff_ne];omega
   have HLG:=Lib.hid (long_any x y b1 b2 _ _ d1 d2 (w2.drewN qq) HR1D.out HR2D.out (by omega) (by omega) (by omega) (by omega))
   clear h1
   go_wp2_with fail
   refine HLG.out.mono ?_
   rintro e w4 ⟨qa,qc,ra,rc,rfl,hx4,hr4,hr5⟩
   have HX4:=Lib.hid (HX3.out.tr hx4)
   have hz4:w.heap.size≤w2.heap.size:=HX2.out.size
   have HR4:=Lib.hid (lst_to (S':=Mo no w.heap.size w4) (w':=w4) hr4 fun b hb=>⟨⟨.inr (Nat.le_trans hz4 (hb.1.resolve_left id)),hb.2⟩,rfl⟩)
   have HR5:=Lib.hid (lst_to (S':=Mo no w.heap.size w4) (w':=w4) hr5 fun b hb=>⟨⟨.inr (Nat.le_trans hz4 (hb.1.resolve_left id)),hb.2⟩,rfl⟩)
   clear hx4 hr4 hr5 HLG
   go_wp2_with fail
   go_ret3
   refine⟨qa,qc,ra,rc,?_,HX4.out,?_,?_⟩
   ·rfl
   ·exact HR4.out
   ·exact HR5.out
theorem mo_up{S:Nat→Prop}{w w1 w2:World}(hx:Ext w w1)(b:Nat)(hb:Mo no w1.heap.size w2 b):Mo S w.heap.size w2 b:=⟨.inr (Nat.le_trans hx.size (hb.1.resolve_left id)),hb.2⟩
set_option maxRecDepth 100000 in
set_option maxHeartbeats 400000 in
theorem gcd_any(l m:List Nat)(a a':Option Addr)(n n' c c':Nat)(w:World)(h:Rp.lst.rel (Lt w.heap.size) w [.slice a n c] l)(h':Rp.lst.rel (Lt w.heap.size) w [.slice a' n' c'] m)
  (hl:l.length≤100000000) (hm:m.length≤100000000):
  Calls Tryz.prog 273 #[.slice a n c,.slice a' n' c'] w (NatAns (Nat.gcd (dval 4294967296 l) (dval 4294967296 m)) w):=by
 obtain⟨rfl,h1,h2⟩:=lst_len h
 obtain⟨rfl,h1',h2'⟩:=lst_len h'
 have hpl:(limbs (dval 4294967296 l)).length≤l.length:=(digs_take_len (B:=4294967296) (by decide) (lst_dg h)).2
 have hql:(limbs (dval 4294967296 m)).length≤m.length:=(digs_take_len (B:=4294967296) (by decide) (lst_dg h')).2
 have H2:=Lib.hid h';clear h'
 have HN1:=Lib.hid (norm_any l a _ c w _ h (by omega))
 clear h
 go_enter Tryz.func273,Tryz.ntmps273
 go_wp2_with fail
 refine HN1.out.mono ?_
 rintro e w1 ⟨b1,d1,rfl,hx1,hr1⟩
 have HX1:=Lib.hid hx1
 have HN2:=Lib.hid (norm_any m a' _ c' w1 _ ((Rp.slice _).below H2.out hx1 hx1.size) (by omega))
 have HR1:=Lib.hid hr1
 clear hx1 hr1 HN1
 go_wp2_with fail
 refine HN2.out.mono ?_
 rintro e w2 ⟨b2,d2,rfl,hx2,hr2⟩
 have HX2:=Lib.hid (HX1.out.tr hx2)
 have HR1':=Lib.hid (lst_to (S':=Mo no w.heap.size w2) (w':=w2) HR1.out fun b hb=>⟨⟨hb.1,Nat.lt_of_lt_of_le hb.2 hx2.size⟩,hx2.block b hb.2⟩)
 have HR2':=Lib.hid (lst_to (S':=Mo no w.heap.size w2) (w':=w2) hr2 fun b hb=>⟨mo_up HX1.out b hb,rfl⟩)
 clear hx2 hr2 HN2 HR1 H2 h1 h2 h1' h2'
 go_wp2
 go_loopg [0,1] (dval 4294967296 m) (fun gk s0 s1 wr=>∃ (x:Nat) (a a':Option Addr) (c c':Nat),s0= .slice a (limbs x).length c∧s1= .slice a' (limbs gk).length c'∧(limbs x).length≤100000000∧(limbs gk).length≤100000000∧Hid (Nat.gcd x gk=Nat.gcd (dval 4294967296 l) (dval 4294967296 m))∧
  Hid (Rp.lst.rel (Mo no w.heap.size wr) wr [s0] (limbs x))∧Hid (Rp.lst.rel (Mo no w.heap.size wr) wr [s1] (limbs gk))∧Hid (Ext w wr))
 case atStart=>exact⟨_,b1,b2,d1,d2,rfl,rfl,Nat.le_trans hpl hl,Nat.le_trans hql hm,rfl,HR1'.out,HR2'.out,HX2.out⟩
 case round=>
  obtain⟨x,a,a',c,c',rfl,rfl,hxl,hyl,HG,HX,HY,HE⟩:=hrel
  by_cases h0:gk=0
  ·have HY0:=Lib.hid h0
   have hl0:((0:Int)<((limbs gk).length:Int))=False:=by rw[h0,limbs_zero];simp
   have hg:x=Nat.gcd (dval 4294967296 l) (dval 4294967296 m):=by rw[←HG.out,h0,Nat.gcd_zero_right]
   have HGG:=Lib.hid hg
   have hnil:limbs gk=[]:=by rw[h0,limbs_zero]
   clear hg h0
   go_wp2
   go_ret
   refine⟨a,c,?_,HE.out,?_⟩
   ·rw[←HGG.out];rfl
   ·rw[←HGG.out];exact HX.out
  ·have hyn:¬ limbs gk=[]:=fun e=>h0 (limbs_eq_nil.1 e)
   have hlp:(0:Int)<((limbs gk).length:Int):=by have:=List.length_pos_iff.2 hyn;omega
   have hdm:=divmod_any (limbs x) (limbs gk) a a' _ _ c c' wr (lst_to HX.out fun b hb=>⟨hb.2,rfl⟩) (lst_to HY.out fun b hb=>⟨hb.2,rfl⟩) hxl hyl (by rw[limbs_val];omega)
   rw[limbs_val,limbs_val]at hdm
   have HDM:=Lib.hid hdm
   have hlt:x % gk<gk:=Nat.mod_lt _ (by omega)
   have HG2:Hid (Nat.gcd gk (x % gk)=Nat.gcd (dval 4294967296 l) (dval 4294967296 m)):=by
    show _=_
    rw[Nat.gcd_comm,←Nat.gcd_rec,Nat.gcd_comm];exact HG.out
   have hll:(limbs (x % gk)).length≤100000000:=Nat.le_trans (digs_len_mono (by decide) (Nat.le_of_lt hlt)) hyl
   clear hdm
   go_wp2_with fail
   refine HDM.out.mono ?_
   rintro e w3 ⟨qa,qc,ra,rc,rfl,hx3,_,hr3⟩
   have HE3:=Lib.hid (HE.out.tr hx3)
   have HY3:=Lib.hid (lst_to (S':=Mo no w.heap.size w3) (w':=w3) HY.out fun b hb=>⟨⟨hb.1,Nat.lt_of_lt_of_le hb.2 hx3.size⟩,hx3.block b hb.2⟩)
   have HR3:=Lib.hid (lst_to (S':=Mo no w.heap.size w3) (w':=w3) hr3 fun b hb=>⟨mo_up HE.out b hb,rfl⟩)
   clear hx3 hr3
   go_wp2
   go_roundg (x % gk)
   case measure=>exact hlt
   case rel=>exact⟨gk,a',ra,c',rc,rfl,rfl,hyl,hll,HG2.out,HY3.out,HR3.out,HE3.out⟩
end Go.Proofs.YtbbpecfapohlaaaGreatDoor
