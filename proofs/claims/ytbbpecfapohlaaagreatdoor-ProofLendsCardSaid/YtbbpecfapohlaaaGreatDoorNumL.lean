import Derived.Deep.DeepCutAuto
import Derived.Deep.CutBlock
import Derived.Test.YtbbpecfapohlaaaGreatDoorNum
import Derived.Test.YtbbpecfapohlaaaGreatDoorP1
set_option maxRecDepth 100000
set_option maxHeartbeats 800000
namespace Go.Proofs.YtbbpecfapohlaaaGreatDoor
open Go.RowKit
theorem OwnL.other{xs:List Nat}{n0:Nat}{e:TypeId}{w w':World}{v u u':Value}(h:OwnL Rp.u32 no n0 e w v xs)(hU:Upd w w' u u')(hne:v.ownBlock=none∨v.ownBlock≠u.ownBlock):OwnL Rp.u32 no n0 e w' v xs:=by
 obtain⟨h1,h2⟩:=oneU.row.1 h;exact oneU.row.2 ⟨h1.kept (row:=u.ownBlock) ⟨hU.os,hU.tape,hU.output,hU.size,fun k hk hne=>hU.block k hk (fun e=>hne e.symm)⟩ hne,h2⟩
def DivAns(x y:Nat)(S:Nat→Prop)(w:World):Ending→World→Prop:=fun e w'=>∃ a c a' c',e= .returned (.tuple #[.slice a (limbs (x / y)).length c,.slice a' (limbs (x % y)).length c',.bool true])∧Ext w w'∧
 Rp.lst.rel (Mo no w.heap.size w') w' [.slice a (limbs (x / y)).length c] (limbs (x / y))∧Rp.lst.rel (Mo S w.heap.size w') w' [.slice a' (limbs (x % y)).length c'] (limbs (x % y))
theorem lz_any(t:Nat)(w:World)(h0:0<t)(h1:t<4294967296):Calls Tryz.prog 277 #[.int .u32 t] w fun e w'=>e= .returned (.int .i64 ((32-Lib.bitLen t:Nat):Int))∧w=w':=
 (Tryz.bits_LeadingZeros32 t w (by omega) (by omega)).mono fun _ _ ⟨he,hw⟩=>⟨by rw[he,Int.toNat_natCast];have:=(bitLen_bd h0 h1).2.1;congr 2;omega,hw.symm⟩
theorem long_div{q:List Nat}{t s kk y:Nat}(s3:2^31≤t*2^s)(s4:t*2^s<2^32)(hs:s≤31)(h:dval 4294967296 (q.take (kk+1))=dval 4294967296 (q.take kk)+4294967296^kk*t)(hq:q.length=kk+1)(hd:q=limbs y):2147483648*4294967296^kk≤y*2^s∧y*2^s<4294967296^(kk+1):=by
 rw[List.take_of_length_le (by omega)]at h;have hy:dval 4294967296 q=y:=by rw[hd,limbs_val]
 rw[hy]at h;have hlt:=dval_lt ((hd▸limbs_dg y:Dg 4294967296 q).take kk);rw[List.length_take,Nat.min_eq_left (by omega)]at hlt;have h1:y*2^s=dval 4294967296 (q.take kk)*2^s+4294967296^kk*(t*2^s):=by rw[h,Nat.add_mul,Nat.mul_assoc]
 rw[Nat.pow_succ];have h2:dval 4294967296 (q.take kk)*2^s+2^s≤4294967296^kk*2^s:=by
  rw[←Nat.succ_mul];exact Nat.mul_le_mul_right _ hlt
 have h3:4294967296^kk*2147483648≤4294967296^kk*(t*2^s):=Nat.mul_le_mul_left _ s3;have h4:(t+1)*2^s≤2^32:=by
  have e:(2:Nat)^32=2^(32-s)*2^s:=by rw[←Nat.pow_add,show 32-s+s=32 by omega]
  rw[e]at s4 ⊢;exact Nat.mul_le_mul_right _ (Nat.lt_of_mul_lt_mul_right s4)
 have h5:4294967296^kk*((t+1)*2^s)≤4294967296^kk*2^32:=Nat.mul_le_mul_left _ h4;rw[Nat.add_mul,Nat.one_mul,Nat.mul_add]at h5;have h6:=Nat.pow_pos (n:=s) (show 0<2 by decide);rw[Nat.mul_comm (4294967296^kk) 2147483648]at h3;constructor<;>omega
theorem limbs_shl{x s:Nat}(hs:s≤31):(limbs (x*2^s)).length≤(limbs x).length+1:=by
 refine digs_len (by decide) ?_;have h1:=dval_lt (limbs_dg x);rw[limbs_val]at h1;rw[Nat.pow_succ];have h2:2^s≤2^32:=Nat.pow_le_pow_right (by decide) (by omega)
 calc x*2^s≤x*4294967296:=Nat.mul_le_mul_left _ h2
  _<4294967296^(limbs x).length*4294967296:=Nat.mul_lt_mul_of_pos_right h1 (by decide)
theorem len_top{V kk:Nat}(h1:2147483648*4294967296^kk≤V)(h2:V<4294967296^(kk+1)):(limbs V).length=kk+1:=by
 refine Nat.le_antisymm (digs_len (by decide) h2) ?_;rcases Nat.lt_or_ge kk (limbs V).length with h | h
 ·exact h
 ·have h3:=dval_lt (limbs_dg V);rw[limbs_val]at h3;have h4:4294967296^(limbs V).length≤4294967296^kk:=Nat.pow_le_pow_right (by decide) h;omega
theorem wp_pushUU{w:World}{ops:Array Oper}{rest:List Oper}{o:Oper}{a:Act}{Q:Exit→Act→World→Prop}(hgd:o.guard=none)(s x:Operand)
  (hop:o.op= .call {callee:= .builtin .append,args:= #[s,x],argTypes:= #[102,102] }) {n0 g:Nat} {v:Value} {cs:Array Value} {l:List Nat} (y:Nat) {z:Int}
  (hx:a.eval x= .slice (some ⟨g,0,none⟩) 1 1) (hs:a.eval s=v) (hown:OwnL Rp.u32 no n0 225 w v l) (hg:g=w.heap.size) (hcs:cs= #[.int .u32 z]) (hz:z=(y:Int)) (hy:y<4294967296) (hl:l.length≤2000000000) (hn:n0≤w.heap.size)
  (h:∀ v' w',OwnL Rp.u32 no n0 225 w' v' (l++[y])→Upd w w' v v'→Below n0 w w'→wpList Tryz.prog ops Q rest (a.put o.dst v') w'):wpList Tryz.prog ops Q (o::rest) a (w.alloc (.cells cs 225)):=by
 subst hcs hz;exact wp_push hgd s x _ hop elemU (y:=y) hx hs hown hg ⟨rfl,hy⟩ (by omega) hn fun v' w' h1 h2 h3=>h v' w' h1 h2 h3
theorem OwnL.solid{α:Type}{R:Rp α}{S0:Nat→Prop}{n0:Nat}{e:TypeId}{w:World}{v:Value}{l:List α}(h:OwnL R S0 n0 e w v l)(hl:0<l.length):∃ g cap,v= .slice (some ⟨g,0,none⟩) l.length cap:=by
 obtain⟨css,h1,h2,hown⟩:=h;rcases hown.2 with ⟨_,h0⟩ | ⟨g,cap,cur,hv,_⟩
 ·omega
 ·exact⟨g,cap,hv⟩
theorem castPred{n:Nat}(h:1≤n):(n:Int)-1=((n-1:Nat):Int):=by omega
theorem hi_no{r d:Nat}(h:r+d<4294967296):(((r:Int)+(d:Int)) / 4294967296 != 0)=false:=by rw[bne_eq_false_iff_eq];omega
theorem hi_yes{r d:Nat}(h:4294967296≤r+d):(((r:Int)+(d:Int)) / 4294967296 != 0)=true:=by rw[bne_iff_ne];omega
theorem hi_yes1{g:Nat}(h:4294967296≤g):((g:Int) / 4294967296 != 0)=true:=by rw[bne_iff_ne];omega
theorem hi_no1{g:Nat}(h:g<4294967296):((g:Int) / 4294967296 != 0)=false∧(g:Int) / 4294967296=0:=by rw[bne_eq_false_iff_eq];omega
theorem not_lt_dec{P Q:Nat}(h:P≤Q):decide ((Q:Int)<(P:Int))=false:=by simp;omega
theorem long_any(x y:Nat)(a a':Option Addr)(n n' c c':Nat)(w:World)(h:Rp.lst.rel (Lt w.heap.size) w [.slice a n c] (limbs x))(h':Rp.lst.rel (Lt w.heap.size) w [.slice a' n' c'] (limbs y))
  (hl:(limbs x).length≤100000000) (hm:(limbs y).length≤100000000) (h2:2≤(limbs y).length) (hxy:y≤x):
  Calls Tryz.prog 305 #[.slice a n c,.slice a' n' c'] w (DivAns x y no w):=by
 obtain⟨rfl,h1,h3⟩:=lst_len h;obtain⟨rfl,h1',h3'⟩:=lst_len h';have H1:=Lib.hid h;clear h;obtain⟨bq,oq,rfl,_,g1,hok1⟩:=oneU.get h' ((limbs y).length-1) (by omega);have H2:=Lib.hid h';clear h';unfold encU at g1;have htop:(limbs y)[(limbs y).length-1]'(by omega)≠0:=by
  intro e0;apply limbs_nrm y;rw[List.getLast?_eq_getElem?,List.getElem?_eq_getElem (by omega),e0]
 have hidx:((limbs y).length:Int)-1=(((limbs y).length-1:Nat):Int):=by omega
 have HTL:=Lib.hid (dval_take_succ (B:=4294967296) (l:=limbs y) (i:=(limbs y).length-1) (by omega));generalize hvt:(limbs y)[(limbs y).length-1]'(by omega)=t at*;clear hvt;generalize hk:(limbs y).length-1=kk at*;obtain⟨s1,s2,s3,s4⟩:=bitLen_bd (by omega:0<t) hok1;have HLZ:=Lib.hid (lz_any t w (by omega) hok1);obtain⟨s,hs⟩:∃ s,s=32-Lib.bitLen t:=⟨_,rfl⟩
 rw[←hs]at s3 s4 HLZ;have hs31:s≤31:=by omega
 have HB:Hid (2147483648*4294967296^kk≤y*2^s∧y*2^s<4294967296^(kk+1)):=long_div s3 s4 hs31 HTL.out (by omega) rfl;clear hs s1 s2 s3 s4 HTL
 go_enter Tryz.func305,Tryz.ntmps305
 go_wp2_with fail
 refine HLZ.out.mono ?_;rintro e w0 ⟨rfl,rfl⟩;clear HLZ g1 htop;have HC1:=Lib.hid (shl_own (limbs x) s a _ c w H1.out (by omega) hs31);rw[limbs_val]at HC1;have hAx:(limbs x).length≤(limbs (x*2^s)).length:=digs_len_mono (by decide) (Nat.le_mul_of_pos_right _ (Nat.pow_pos (by decide)));have hAu:(limbs (x*2^s)).length≤(limbs x).length+1:=limbs_shl hs31;have hVn:(limbs (y*2^s)).length=kk+1:=len_top HB.out.1 HB.out.2;have hVA:(limbs (y*2^s)).length≤(limbs (x*2^s)).length:=digs_len_mono (by decide) (Nat.mul_le_mul_right _ hxy);have hvn:=Lib.hid hVn;clear hVn;have HVA:Hid (∀z,z*2^s / 2^s=z):=fun z=>Nat.mul_div_cancel _ (Nat.pow_pos (by decide))
 go_wp2_with fail
 refine HC1.out.mono ?_;rintro e w1 ⟨ua,uc,rfl,hx1,hu1⟩;have HX1:=Lib.hid hx1;have HU1:=Lib.hid hu1;have HZ1:=Lib.hid hx1.size;have hc2:=shl_any (limbs y) s _ _ c' w1 ((Rp.slice _).below H2.out hx1 hx1.size) (by omega) hs31;rw[limbs_val]at hc2;have HC2:=Lib.hid hc2;clear hx1 hu1 HC1 hc2
 go_wp2_with fail
 refine HC2.out.mono ?_;rintro e w2 ⟨va,vc,rfl,hx2,hv2⟩;have HX2:=Lib.hid (HX1.out.tr hx2);have HZ2:=Lib.hid hx2.size;have HU2:=Lib.hid (HU1.out.ext hx2);have HUB:=Lib.hid HU1.out.own_lt;have HV2:=Lib.hid hv2;clear hx2 hv2 HC2 HX1 HU1;generalize hA:x*2^s=A at*;generalize hV:y*2^s=V at*;have HA:=Lib.hid hA;have HV:=Lib.hid hV;clear hA hV hidx;have hfl:(((limbs A).length:Int)+1==((limbs x).length:Int))=false:=by rw[beq_eq_false_iff_ne];omega
 go_wp2_with (at_builtin;refine wp_pushUU rfl _ _ rfl 0 rfl rfl HU2.out rfl rfl rfl (by omega) (by omega) HX2.out.size ?_)
 intro v' w3 hown3 hU3 hB3;obtain⟨g0,cap,rfl⟩:=hown3.solid (by simp);rw[List.length_append,List.length_singleton]at hown3 hU3;have HX3:=Lib.hid (HX2.out.trans hB3);have HO3:=Lib.hid hown3;have HG0:Hid (¬(w1.heap.size≤g0∧g0<w2.heap.size)):=fun⟨h4,h5⟩=>by
  rcases hU3.own g0 rfl with h6 | h6
  ·have:=(HUB.out g0 h6).2;omega
  ·omega
 have HV3:=Lib.hid ((Rp.slice _).keep HV2.out (S':=fun b=>(w1.heap.size≤b∧b<w2.heap.size)) (w':=w3) fun b hb=>⟨⟨hb.1.resolve_left id,hb.2⟩,hU3.block b hb.2 (fun e=>by have:=(HUB.out b e).2;have:=hb.1.resolve_left id;omega)⟩);have HZ3:=Lib.hid hU3.size;clear hown3 hU3 hB3 HV2 HU2 HUB
 go_wp2_with (at_make;refine wp_makeZ oneU rfl _ _ _ rfl elemUZ 0 rfl (by omega) no w.heap.size _ _ _ _ ((limbs A).length+1-(limbs V).length) ((limbs A).length+1-(limbs V).length) rfl rfl (by omega) (by omega) (by omega) (by omega) (by omega) HX3.out.size ?_)
 intro w4 hown4 hx4 hz4;have HX4:=Lib.hid (HX3.out.tr hx4);have HO4:=Lib.hid (HO3.out.ext hx4);have HQ4:=Lib.hid hown4;have HV4:=Lib.hid ((Rp.slice _).keep HV3.out (S':=fun b=>(w1.heap.size≤b∧b<w2.heap.size)) (w':=w4) fun b hb=>⟨hb,hx4.block b (by have:=HZ3.out;omega)⟩);have HG1:Hid (g0<w3.heap.size):=(HO3.out.own_lt g0 rfl).2;obtain⟨m,hm⟩:∃ m,m=(limbs A).length+1-(limbs V).length:=⟨_,rfl⟩
 have hm1:m+(limbs V).length=(limbs A).length+1:=by omega
 rw[←hm]at HQ4 ⊢;clear hown4 hx4 HO3 HV3 hfl hm;obtain⟨nn,rfl⟩:∃ nn,kk=nn+1:=⟨kk-1,by omega⟩
 have HVD:=Lib.hid (limbs_dg V);have HVV:=Lib.hid (limbs_val V);have HL0:Hid (dval 4294967296 (limbs A++[0])=A):=by show _=_;rw[dval_concat,limbs_val];simp
 have HV0:Hid (dval 4294967296 ((limbs A++[0]).drop m)<V∧(limbs A++[0]).length=(limbs A).length+1):=by
  have hvn':=hvn.out;refine⟨?_,by rw[List.length_append];rfl⟩;rw[List.drop_append_of_le_length (by omega),dval_concat];have h4:=dval_lt ((limbs_dg A).drop m);rw[List.length_drop,show (limbs A).length-m=nn+1 by omega]at h4;have:=HB.out.1;simp only[Nat.mul_zero,Nat.add_zero];omega
 have hvn2:(limbs V).length≤200000000:=by omega
 have hvn3:2≤(limbs V).length:=by have:=hvn.out;omega
 generalize hvl:limbs V=vl at*;have HAL:=Lib.hid (limbs_val A);generalize hal:(limbs A).length=la at*;clear hal hvl hk
 go_wp2
 go_loopg [14] m (fun gk sj wr=>gk≤m∧sj= .int .i64 ((gk:Int)-1)∧∃ ul ql:List Nat,Hid (ul.length=la+1)∧Hid (ql.length=m)∧Hid (OwnL Rp.u32 no w.heap.size 225 wr (.slice (some ⟨g0,0,none⟩) (la+1) cap) ul)∧
  Hid (OwnL Rp.u32 no w.heap.size 225 wr (.slice (some ⟨w3.heap.size,0,none⟩) m m) ql)∧Hid (Rp.u32.slice.rel (fun b=>w1.heap.size≤b∧b<w2.heap.size) wr [.slice va vl.length vc] vl)∧Hid (Ext w wr)∧Hid (w4.heap.size≤wr.heap.size)∧
  Hid (∃R,dval 4294967296 (ul.drop gk)=R∧R<V∧A=dval 4294967296 (ul.take gk)+4294967296^gk*(dval 4294967296 (ql.drop gk)*V+R)))
 case atStart=>
  refine⟨Nat.le_refl _,?_,_,_,HV0.out.2,by simp[Hid],HO4.out,HQ4.out,HV4.out,HX4.out,Nat.le_refl _,_,rfl,HV0.out.1,?_⟩
  ·go_num
  ·have hdr:(List.replicate m 0).drop m=([]:List Nat):=List.drop_eq_nil_of_le (by simp);rw[hdr,dval_nil,Nat.zero_mul,Nat.zero_add,←dval_split m (by have:=HV0.out.2;omega)];exact HL0.out.symm
 case round=>
  obtain⟨hgk,rfl,ul,ql,HUL,HQL,HOU,HOQ,HVR,HX,HZ,HINV⟩:=hrel;rcases Nat.eq_zero_or_pos gk with h0 | h0
  ·subst h0;obtain⟨R,e1,e2,e3⟩:=HINV.out;rw[List.drop_zero,List.take_zero,dval_nil,Nat.zero_add,Nat.pow_zero,Nat.one_mul,List.drop_zero]at*;have hul:=HUL.out;have hvl:=hvn.out;obtain⟨d1,d2⟩:=div_unique e3 e2;rw[←HA.out,←HV.out,Nat.mul_div_mul_right _ _ (Nat.pow_pos (by decide))]at d1;rw[←HA.out,←HV.out,Nat.mul_mod_mul_right]at d2;have hz:=high_zero (ul:=ul) (V:=V) (R:=R) (k:=0) (n:=nn+2) (by rw[List.drop_zero];exact e1) e2 (Nat.le_of_lt HB.out.2) (by omega);have hwin:=win_eq (ul:=ul) (j:=0) (i:=nn+2) (by omega) hz;unfold win at hwin;rw[List.drop_zero,e1]at hwin;obtain⟨a3,c3,e4,hrel⟩:=HOU.out.slice;injection e4 with e4 e5 e6;subst e4 e6;have hcs:=HOU.out.shape;have hcap:la+1≤cap∧cap≤9223372036854775807:=by
    obtain⟨a5,c5,e5,h5,h6⟩:=hcs;injection e5 with e5 e6 e7;subst e7;unfold maxLen at h6;omega
   have hsub:=slice_part hrel 0 vl.length cap (Nat.zero_le _) (by omega) (by omega) (by unfold maxLen;omega);rw[List.drop_zero,hvl]at hsub;have hsub2:(Rp.slice Rp.u32).rel (Mo no w.heap.size wr) wr [.slice (some ⟨g0,0,none⟩) (nn+2) cap] (ul.take (nn+2)):=by simpa using hsub
   have hwr:Rp.lst.rel (Lt wr.heap.size) wr [.slice (some ⟨g0,0,none⟩) (nn+2) cap] (ul.take (nn+2)):=(Rp.slice _).mono hsub2 fun b hb=>hb.2;have hshr:=shr_any (ul.take (nn+2)) s _ _ cap wr hwr (by rw[List.length_take];omega) (by rw[List.length_take];omega) hs31;rw[hwin,d2,Nat.mul_div_cancel _ (Nat.pow_pos (by decide))]at hshr;have HSH:=Lib.hid hshr;have HD1:=Lib.hid d1;have hvl3:vl.length≤cap:=by omega
   clear hshr d1 d2 hz hwin hrel hcs hsub hsub2 hwr hvl hul e1 e2 e3 e5
   go_wp2_with fail
   rw[hvn.out];refine HSH.out.mono ?_;rintro e w5 ⟨ra,rc,rfl,hx5,hr5⟩;have HX5:=Lib.hid (HX.out.tr hx5);have hwx:w.heap.size≤wr.heap.size:=HX.out.size;have HR5:=Lib.hid ((Rp.slice _).mono hr5 fun b hb=>(⟨.inr (Nat.le_trans hwx (hb.1.resolve_left id)),hb.2⟩:Mo no w.heap.size w5 b));have HQ5:=Lib.hid (HOQ.out.ext hx5);clear hx5 hr5;obtain⟨a6,c6,e6,hrel6⟩:=HQ5.out.slice;injection e6 with e6 e7 e8;subst e6 e8;rw[HQL.out]at hrel6;have HR6:=Lib.hid hrel6;clear hrel6 e7
   go_wp2_with fail
   refine(norm_any ql _ _ _ _ _ HR6.out (by have:=HQL.out;omega)).mono ?_;rintro e w6 ⟨qa,qc,rfl,hx6,hr6⟩;rw[HD1.out]at hr6;have HX6:=Lib.hid (HX5.out.tr hx6);have hwx5:w.heap.size≤w5.heap.size:=HX5.out.size;have HR7:=Lib.hid ((Rp.slice _).mono hr6 fun b hb=>(⟨.inr (Nat.le_trans hwx5 (hb.1.resolve_left id)),hb.2⟩:Mo no w.heap.size w6 b));have HR8:=Lib.hid ((Rp.slice _).keep HR5.out fun b hb=>((⟨⟨hb.1,Nat.lt_of_lt_of_le hb.2 hx6.size⟩,hx6.block b hb.2⟩:Mo no w.heap.size w6 b∧_)));clear hx6 hr6
   go_wp2_with fail
   go_ret3
   refine⟨qa,qc,ra,rc,?_,HX6.out,HR7.out,HR8.out⟩;rw[←HD1.out];rfl
  ·obtain⟨j,rfl⟩:∃ j,gk=j+1:=⟨gk-1,by omega⟩
   have hul:=HUL.out;have hvl:=hvn.out;obtain⟨i2,hi2⟩:∃ i2,i2=j+(nn+2):=⟨_,rfl⟩
   obtain⟨i1,hi1⟩:∃ i1,i1=j+(nn+1):=⟨_,rfl⟩
   obtain⟨i0,hi0⟩:∃ i0,i0=j+nn:=⟨_,rfl⟩
   obtain⟨p1,hp1⟩:∃ p1,p1=nn+1:=⟨_,rfl⟩
   have bj:j<ul.length:=by omega
   have b2:i2<ul.length:=by omega
   have b1:i1<ul.length:=by omega
   have b0:i0<ul.length:=by omega
   have c1:p1<vl.length:=by omega
   have c0:nn<vl.length:=by omega
   have HKN:=HINV.out;obtain⟨g2,f2⟩:=oneU.cell HOU.out i2 b2;obtain⟨g1,f1⟩:=oneU.cell HOU.out i1 b1;obtain⟨g0',f0⟩:=oneU.cell HOU.out i0 b0;obtain⟨bv,ov,rfl,_,k1,_⟩:=oneU.get HVR.out p1 c1;obtain⟨bv',ov',e1,_,k0,_⟩:=oneU.get HVR.out nn c0;injection e1 with e1;injection e1 with e1 e2 e3;subst e1 e2;clear e3;have HK:∀ R,dval 4294967296 (ul.drop (j+1))=R→R<V→Kn (win ul j (nn+3)) V (4294967296^nn) vl[p1] vl[nn] ul[i2] ul[i1] ul[i0]∧win ul j (nn+3)=ul[j]'bj+4294967296*R∧dval 4294967296 (ul.drop (j+(nn+3)))=0:=by
    intro R h4 h5;subst hi2 hi1 hi0 hp1;exact kn_of (oneU.okAll HOU.out) HVD.out hvl HVV.out HB.out.1 (by omega) h4 h5 (by omega) (by omega) (by omega) (by omega) (by omega)
   obtain⟨R,hR1,hR2,hR3⟩:=HKN;obtain⟨hkn,hw1,hw2⟩:=HK R hR1 hR2;have HKN:=Lib.hid hkn;have HW1:=Lib.hid hw1;have HW2:=Lib.hid hw2;have HR1:=Lib.hid hR1;have HR2:=Lib.hid hR2;have HR3:=Lib.hid hR3;unfold encU at g2 g1 g0' k1 k0;have hsm:=hkn.small;have hdd:=hkn.dd;have htop:=hkn.top;have HST:=Lib.hid hkn.start;clear HK hkn hw1 hw2 hR1 hR2 hR3 HINV;generalize hU:win ul j (nn+3)=U at*;generalize ul[i2]=t2 at*;generalize ul[i1]=t1 at*;generalize ul[i0]=t0 at*;generalize vl[p1]=d at*;generalize vl[nn]=d2 at*;have HU:=Lib.hid hU;clear hU;have q2:(j:Int)+(vl.length:Int)=(i2:Int):=by omega
   have q1:(i2:Int)-1=(i1:Int):=by omega
   have q0:(i2:Int)-2=(i0:Int):=by omega
   have r1:(vl.length:Int)-1=(p1:Int):=by omega
   have r0:(vl.length:Int)-2=(nn:Int):=by omega
   have HI:=Lib.hid (And.intro hi2 (And.intro hi1 (And.intro hi0 hp1)));have l2:i2≤300000000:=by omega
   have l1:i1≤300000000:=by omega
   have l0:i0≤300000000:=by omega
   have lp:p1≤300000000:=by omega
   have ln:nn≤300000000:=by omega
   have lj:j≤300000000:=by omega
   have hj1:((j+1:Nat):Int)-1=(j:Int):=by omega
   have w2':IntKind.i64.wrap ((j:Int)+(vl.length:Int))=(i2:Int):=by rw[IntKind.wrap_i64];omega
   have w1':IntKind.i64.wrap ((i2:Int)-1)=(i1:Int):=by rw[IntKind.wrap_i64];omega
   have w0':IntKind.i64.wrap ((i2:Int)-2)=(i0:Int):=by rw[IntKind.wrap_i64];omega
   have x1':IntKind.i64.wrap ((vl.length:Int)-1)=(p1:Int):=by rw[IntKind.wrap_i64];omega
   have x0':IntKind.i64.wrap ((vl.length:Int)-2)=(nn:Int):=by rw[IntKind.wrap_i64];omega
   have hor:=or_32b (u:=t1) (v:=t2) hsm.2.2.1 hsm.2.1;have htl:t2*4294967296+t1<18446744073709551616:=by omega
   have hq:=castDiv (t2*4294967296+t1) d;have hr:=castMod (t2*4294967296+t1) d;clear hul hvl hi2 hi1 hi0 hp1 htop;generalize t2*4294967296+t1=top at*;generalize top / d=gg at*;generalize top % d=rr at*;have hgg:gg≤4294967297:=HKN.out.g_le HST.out;have hrr:rr<4294967296:=HST.out.rest
   go_wp2
   go_quiet (fail)
   go_wp2
   go_quiet (fail)
   go_upto_block 2 with (fail)
   go_cut [16] (fun sg wc=>∃ g:Nat,sg= .int .u64 g∧g<4294967296∧Hid (U / V≤g∧g≤U / V+1)∧∃ q,wc=wr.drewN q)
   case first=>
    go_wp2
    go_loopg [16,17] gg (fun gk s6 s7 wx=>s6= .int .u64 gk∧∃ r:Nat,s7= .int .u64 r∧r<4294967296∧Hid (Gs U V d t2 t1 gk r)∧∃ q,wx=wr.drewN q)
    case atStart=>exact⟨by first | rfl | (congr 1;rw[IntKind.wrap_u64];omega),rr,by first | rfl | rw[hr],HST.out.rest,HST.out,_,by first | rfl | rw[World.drewN_drewN]⟩
    case round=>
     obtain⟨rfl,r,rfl,hr4,HGS,q,rfl⟩:=hrel;have hg5:=HKN.out.gd2 HGS.out;have hg6:=HKN.out.g_le HGS.out;have hp1:(gk:Int)*(d2:Int)=((gk*d2:Nat):Int):=(Int.natCast_mul gk d2).symm;have hp2:IntKind.u64.wrap ((gk*d2:Nat):Int)=((gk*d2:Nat):Int):=by rw[IntKind.wrap_u64];omega
     have hor2:=or_32b (u:=t0) (v:=r) hsm.2.2.2 hr4;have hor3:r*4294967296+t0<18446744073709551616:=by omega
     have HC:Hid (∀x y,x=gk*d2→y=r*4294967296+t0→x=gk*d2∧y=r*4294967296+t0):=fun x y a b=>⟨a,b⟩
     generalize hP1:gk*d2=P1 at*;generalize hQ1:r*4294967296+t0=Q1 at*;have HP1:=Lib.hid hP1;have HQ1:=Lib.hid hQ1;clear hP1 hQ1 HC;by_cases hlv:4294967296≤gk∨Q1<P1
     ·have hlv2:4294967296≤gk∨r*4294967296+t0<gk*d2:=by rw[HP1.out,HQ1.out];exact hlv
      have hg1:=(HKN.out.less HGS.out hlv2).1;by_cases hbr:r+d<4294967296
      ·have HNX:=Lib.hid (HKN.out.next HGS.out hlv2 hbr);have e9:=hi_no hbr;clear hlv2;by_cases hgB:4294967296≤gk
       ·have e1:=hi_yes1 hgB;clear hlv
        go_wp2
        go_quiet (fail)
        go_wp2
        go_roundg (gk-1)
        case measure=>exact Nat.sub_lt hg1 Nat.one_pos
        case rel=>exact⟨congrArg _ (castPred hg1),r+d,by go_num,hbr,HNX.out,_,by first | rfl | rw[World.drewN_drewN]⟩
       ·obtain⟨e1,e2⟩:=hi_no1 (Nat.lt_of_not_le hgB);have hQP:Q1<P1:=hlv.resolve_left hgB;clear hlv
        go_wp2
        go_quiet (fail)
        go_wp2
        go_roundg (gk-1)
        case measure=>exact Nat.sub_lt hg1 Nat.one_pos
        case rel=>exact⟨congrArg _ (castPred hg1),r+d,by go_num,hbr,HNX.out,_,by first | rfl | rw[World.drewN_drewN]⟩
      ·have HBK:=Lib.hid (HKN.out.brk HGS.out hlv2 (Nat.le_of_not_lt hbr));have e9:=hi_yes (Nat.le_of_not_lt hbr);clear hlv2;by_cases hgB:4294967296≤gk
       ·have e1:=hi_yes1 hgB;clear hlv
        go_wp2
        go_quiet (fail)
        go_wp2
        go_meet
        exact⟨gk-1,congrArg _ (castPred hg1),HBK.out.2.2,⟨HBK.out.1,HBK.out.2.1⟩,_,by first | rfl | rw[World.drewN_drewN]⟩
       ·obtain⟨e1,e2⟩:=hi_no1 (Nat.lt_of_not_le hgB);have hQP:Q1<P1:=hlv.resolve_left hgB;clear hlv
        go_wp2
        go_quiet (fail)
        go_wp2
        go_meet
        exact⟨gk-1,congrArg _ (castPred hg1),HBK.out.2.2,⟨HBK.out.1,HBK.out.2.1⟩,_,by first | rfl | rw[World.drewN_drewN]⟩
     ·have hgB:gk<4294967296:=Nat.lt_of_not_le fun h=>hlv (.inl h);have hQP:P1≤Q1:=Nat.le_of_not_lt fun h=>hlv (.inr h);have HFN:=Lib.hid (HKN.out.fine HGS.out hgB (by rw[HP1.out,HQ1.out];exact hQP));obtain⟨e1,e2⟩:=hi_no1 hgB;have e3:=not_lt_dec hQP;clear hlv
      go_wp2
      go_quiet (fail)
      go_wp2
      go_meet
      exact⟨gk,rfl,hgB,⟨HFN.out.1,HFN.out.2.1⟩,_,by first | rfl | rw[World.drewN_drewN]⟩
   case rest=>
    obtain⟨g,rfl,hg,HGG,qq,rfl⟩:=hcut;clear hq hr hor htl HST hgg hrr k1 k0 g2 g1 g0' f2 f1 f0 w2' w1' w0' x1' x0' q1 q0 r1 r0 hsm hdd HKN b1 b0 c1 c0 hj1;have hcp:=HOU.out.shape;have hcap:la+1≤cap∧cap≤9223372036854775807:=by
     obtain⟨a5,c5,e5,h5,h6⟩:=hcp;injection e5 with e5 e6 e7;subst e7;have:=HUL.out;unfold maxLen at h6;omega
    clear hcp;have hw0:w.heap.size≤wr.heap.size:=HX.out.size;have hwz:w2.heap.size≤wr.heap.size:=by have:=HZ3.out;have:=HZ.out;omega
    have hvl1:i2+1-j=vl.length+1:=by have:=HI.out.1;have:=hvn.out;omega
    have HN3:Hid (vl.length+1=nn+3):=by show _=_;have:=hvn.out;omega
    have hjl:j+vl.length+1≤ul.length:=by have:=HI.out.1;have:=hvn.out;omega
    have HVP:Hid (0<V):=Nat.lt_of_le_of_lt (Nat.zero_le _) HR2.out;have HVM:Hid (V≤4294967296^(nn+3)):=Nat.le_trans (Nat.le_of_lt HB.out.2) (Nat.pow_le_pow_right (by decide) (by omega));have FIN:Hid (∀ul':List Nat,Out ul ul' j (vl.length+1)→win ul' j (vl.length+1)=U % V→∃ R,dval 4294967296 (ul'.drop j)=R∧R<V∧A=dval 4294967296 (ul'.take j)+4294967296^j*(dval 4294967296 ((ql.set j (U / V)).drop j)*V+R)):=by
     intro ul' h5 h6;rw[HN3.out]at h5 h6;have hlen:=h5.1;refine⟨U % V,?_,Nat.mod_lt _ HVP.out,?_⟩
     ·rw[←win_eq (i:=nn+3) (by have:=hvn.out;omega) (by rw[h5.drop (Nat.le_refl _)];exact HW2.out),h6]
     ·refine long_step HR3.out bj HW1.out (h5.take (Nat.le_refl _)) ?_;rw[dval_drop (by rw[List.length_set,HQL.out];omega),List.getElem_set_self,List.drop_set_of_lt (by omega)]
    have HTA:=Lib.hid (take_any ul vl g j g0 (la+1) cap w.heap.size (cap-j) vc (some ⟨bv,ov,none⟩) (wr.drewN qq) (fun b=>w1.heap.size≤b∧b<w2.heap.size) (fun b hb=>⟨Nat.lt_of_lt_of_le hb.2 hwz,fun e=>HG0.out (e▸hb)⟩) (HOU.out.drN qq) (Rp.drN _ HVR.out qq) hjl hg (by have:=HUL.out;omega))
    go_wp2_with fail
    refine HTA.out.mono ?_;rintro e w5 ⟨ul1,b,rfl,hO5,hU5,hOut5,hb1,hb2⟩;rw[HVV.out,HN3.out,HU.out]at hb1 hb2;have HO5:=Lib.hid hO5;have HOQ5:=Lib.hid ((HOQ.out.drN qq).other hU5 (.inr (by simp only[Value.ownBlock];intro e;injection e with e;have:=HG1.out;omega)));have HV5:=Lib.hid ((Rp.slice _).keep (Rp.drN _ HVR.out qq) (S':=fun b=>w1.heap.size≤b∧b<w2.heap.size) (w':=w5) fun b hb=>⟨hb,hU5.block b (Nat.lt_of_lt_of_le hb.2 hwz) (fun e=>HG0.out (by simp only[Value.ownBlock]at e;injection e with e;exact e▸hb))⟩);have HX5:=Lib.hid ((HX.out.drN qq).trans (hU5.below hw0 (fun g hg=>(HOU.out.own_lt g hg).1)));have HZ5:Hid (w4.heap.size≤w5.heap.size):=Nat.le_trans HZ.out hU5.size;have HOut5:=Lib.hid hOut5;clear hO5 hU5 hOut5 HTA HOU HOQ HVR HX HZ;cases b with
    | false=>
      have hd:=digit_fine HVP.out HGG.out.1 (hb2 rfl);have HUL6:Hid (ul1.length=la+1):=HOut5.out.1.trans HUL.out;have HFI:=Lib.hid (FIN.out ul1 HOut5.out (by rw[HN3.out];exact hd.2));have HGE:=Lib.hid hd.1;clear hd hb1 hb2;obtain⟨g3,g4⟩:=oneU.cell HOQ5.out j (by rw[HQL.out];omega);unfold encU at g3;have hUq:=(Upd.refl w5 (.slice (some ⟨w3.heap.size,0,none⟩) m m)).setC j (.int .u32 (g:Int));obtain⟨s1,s2⟩:=storeU HOQ5.out j (U / V) (z:=(g:Int)) (by rw[HGE.out]) (by rw[←HGE.out];exact hg);have HOQ6:=Lib.hid s1;have HX6:=Lib.hid (HX5.out.trans s2);have HO6:=Lib.hid (HO5.out.other hUq (.inr (by simp only[Value.ownBlock];intro e;injection e with e;have:=HG1.out;omega)));have HV6:=Lib.hid ((Rp.slice _).keep HV5.out (S':=fun b=>w1.heap.size≤b∧b<w2.heap.size) (w':=w5.setCell ⟨w3.heap.size,j,none⟩ (.int .u32 (g:Int))) fun b hb=>⟨hb,hUq.block b (by have h1:b<w2.heap.size:=hb.2;have:=HZ5.out;have:=HZ3.out;omega) (by simp only[Value.ownBlock];intro e;injection e with e;have h1:b<w2.heap.size:=hb.2;have:=HZ3.out;omega)⟩);have HZ6:Hid (w4.heap.size≤(w5.setCell ⟨w3.heap.size,j,none⟩ (.int .u32 (g:Int))).heap.size):=Nat.le_trans HZ5.out hUq.size;have HQ6:Hid ((ql.set j (U / V)).length=m):=by show _=_;rw[List.length_set];exact HQL.out
      have hjm:j≤m:=by omega
      clear s1 s2 hUq
      go_wp2
      go_roundg j
      case measure=>exact Nat.lt_succ_self j
      case rel=>exact⟨hjm,by first | rfl | go_num | (congr 1;omega),_,_,HUL6.out,HQ6.out,HO6.out,HOQ6.out,HV6.out,HX6.out,HZ6.out,HFI.out⟩
    | true=>
      have hd:=digit_over HVP.out HGG.out.2 (hb1 rfl).1 (hb1 rfl).2 HVM.out;have HGE:Hid (g-1=U / V∧1≤g):=⟨by rw[hd.1];rfl,by rw[hd.1];exact Nat.le_add_left 1 _⟩
      have hg1:=HGE.out.2;have HDM:=Lib.hid hd.2;have hw5:w.heap.size≤w5.heap.size:=HX5.out.size;have hwz5:w2.heap.size≤w5.heap.size:=by have:=HZ5.out;have:=HZ3.out;omega
      have HGA:=Lib.hid (give_any ul1 vl j g0 (la+1) cap w.heap.size (cap-j) vc (some ⟨bv,ov,none⟩) w5 (fun b=>w1.heap.size≤b∧b<w2.heap.size) (fun b hb=>⟨Nat.lt_of_lt_of_le hb.2 hwz5,fun e=>HG0.out (e▸hb)⟩) HO5.out HV5.out (by rw[HOut5.out.1];exact hjl));clear hd hb1 hb2
      go_wp2_with fail
      refine HGA.out.mono ?_;rintro e w6 ⟨ul2,rfl,hO6,hU6,hOut6,hd6⟩;rw[HVV.out,HN3.out,HDM.out]at hd6;have HO7:=Lib.hid hO6;have HOQ7:=Lib.hid (HOQ5.out.other hU6 (.inr (by simp only[Value.ownBlock];intro e;injection e with e;have:=HG1.out;omega)));have HV7:=Lib.hid ((Rp.slice _).keep HV5.out (S':=fun b=>w1.heap.size≤b∧b<w2.heap.size) (w':=w6) fun b hb=>⟨hb,hU6.block b (Nat.lt_of_lt_of_le hb.2 hwz5) (fun e=>HG0.out (by simp only[Value.ownBlock]at e;injection e with e;exact e▸hb))⟩);have HX7:=Lib.hid (HX5.out.trans (hU6.below hw5 (fun g hg=>(HO5.out.own_lt g hg).1)));have HZ7:Hid (w4.heap.size≤w6.heap.size):=Nat.le_trans HZ5.out hU6.size;have HUL6:Hid (ul2.length=la+1):=hOut6.1.trans (HOut5.out.1.trans HUL.out);have HFI:=Lib.hid (FIN.out ul2 (HOut5.out.tr hOut6) (by rw[HN3.out];exact hd6));clear hO6 hU6 hOut6 hd6 HGA HO5 HOQ5 HV5 HX5 HZ5 HOut5;obtain⟨g3,g4⟩:=oneU.cell HOQ7.out j (by rw[HQL.out];omega);unfold encU at g3;have hUq:=(Upd.refl w6 (.slice (some ⟨w3.heap.size,0,none⟩) m m)).setC j (.int .u32 ((g:Int)-1));obtain⟨s1,s2⟩:=storeU HOQ7.out j (U / V) (z:=((g:Int)-1)) (by rw[←HGE.out.1];exact castPred hg1) (by rw[←HGE.out.1];omega);have HOQ6:=Lib.hid s1;have HX6:=Lib.hid (HX7.out.trans s2);have HO6:=Lib.hid (HO7.out.other hUq (.inr (by simp only[Value.ownBlock];intro e;injection e with e;have:=HG1.out;omega)))
      have HV6:=Lib.hid ((Rp.slice _).keep HV7.out (S':=fun b=>w1.heap.size≤b∧b<w2.heap.size) (w':=w6.setCell ⟨w3.heap.size,j,none⟩ (.int .u32 ((g:Int)-1))) fun b hb=>⟨hb,hUq.block b (by have h1:b<w2.heap.size:=hb.2;have:=HZ7.out;have:=HZ3.out;omega) (by simp only[Value.ownBlock];intro e;injection e with e;have h1:b<w2.heap.size:=hb.2;have:=HZ3.out;omega)⟩);have HZ6:Hid (w4.heap.size≤(w6.setCell ⟨w3.heap.size,j,none⟩ (.int .u32 ((g:Int)-1))).heap.size):=Nat.le_trans HZ7.out hUq.size;have HQ6:Hid ((ql.set j (U / V)).length=m):=by show _=_;rw[List.length_set];exact HQL.out
      have hjm:j≤m:=by omega
      clear s1 s2 hUq
      go_wp2
      go_roundg j
      case measure=>exact Nat.lt_succ_self j
      case rel=>exact⟨hjm,by first | rfl | go_num | (congr 1;omega),_,_,HUL6.out,HQ6.out,HO6.out,HOQ6.out,HV6.out,HX6.out,HZ6.out,HFI.out⟩
end Go.Proofs.YtbbpecfapohlaaaGreatDoor
