import Derived.Test.YthdkkpocihkgbaaGreatDoorPbA
import Derived.Test.YthdkkpocihkgbaaGreatDoorK4
set_option maxRecDepth 100000
set_option maxHeartbeats 8000000
namespace Go.Proofs.YthdkkpocihkgbaaGreatDoor
open Go.RowKit
attribute [local irreducible] AC Do St
theorem can_sh{l:List Tm}(h:∀ t∈l,Bd 256 t.2)(hl:l.length≤12):∀ t∈canL l,Bd 3341 t.2:=fun t ht=>(canL_bd h t ht).mono (by
 have:(l.length+1)*(256+1)≤13*(256+1):=Nat.mul_le_mul_right _ (by omega);omega)
theorem can_in{i o:Int}{l:List Tm}(h:∀ t∈l,0≤t.1∧t.1<i+o):∀ t∈canL l,0≤t.1∧t.1<i+o:=fun t ht=>by
 obtain⟨u,hu,e⟩:=canL_mem ht;have:=h u hu;omega
theorem sh_of{p:PP}{i o:Int}(hb:bdPP 256 p)(ha:∀ a∈p.ats,bdAtP 256 12 a)(h0:chkPP p i o=0):shP p i:=by
 obtain⟨hi,ho,hin,hc,hbx,hn⟩:=chk_in h0;refine⟨hi,hb.1,hn,fun a haa=>?_,chk_0 hc,chkT_nd hc⟩;obtain⟨h1,h2,h3⟩:=ha a haa;have:=(canL_spec a.e.t).2.2;refine⟨(hin a haa).1,by omega,fun t ht=>⟨printL_bd ((can_sh h2 h3 t ht).mono (by decide)),?_⟩,printL_bd (h1.neg.mono (by decide))⟩;have:=can_in (hin a haa).2 t ht;omega
theorem fit_of{i o:Int}{a:At}(hi:1≤i∧i≤32)(ho:1≤o∧o≤32)(h:inA i o a)(hc:Bd 256 a.e.c){k:Nat}(hk:k≤3341)(hk1:256≤k)(ht:∀ t∈a.e.t,Bd k t.2)(hn:a.e.t.length≤12):fitA a:=by
 refine⟨h.1,?_,?_,fun t ht=>by have:=h.2 t ht;omega⟩
 ·have h1:=tb_bd ht;have:a.e.t.length*(k+1)≤12*3342:=Nat.mul_le_mul hn (by omega);omega
 ·have:=bz_le hc;omega
theorem back_bd{p:PP}{i o:Int}(hb:bdPP 256 p)(ha:∀ a∈p.ats,bdAtP 256 12 a)(h0:chkPP p i o=0)(hnd:ndT p.bad≤190):bdPP 3341 (bkP p)∧lenPP (bkP p)∧∀ a∈(bkP p).ats,bdAtP 3341 12 a∧Bd 256 a.e.c:=by
 obtain⟨hi,ho,hin,hc,hbx,hn⟩:=chk_in h0;have hoc:=oc_nd p.ats p.bad;have key:∀ a∈(bkP p).ats,bdAtP 3341 12 a∧Bd 256 a.e.c:=fun a haa=>by
  obtain⟨b,hb,rfl⟩:=oc_mem p.ats _ p.bad (Nat.lt_succ_self _) (chk_0 hc) a haa;obtain⟨h1,h2,h3⟩:=ha b hb;have:=(canL_spec b.e.t).2.2;exact⟨⟨h1.mono (by decide),can_sh h2 h3,by show (canL b.e.t).length≤12;omega⟩,h1⟩
 refine⟨⟨fun s hs=>⟨(hb.1 s hs).1.mono (by decide),(hb.1 s hs).2.mono (by decide)⟩,hb.2⟩,⟨?_,fun a haa=>?_⟩,key⟩
 ·show (ocT p.ats p.bad).length≤_;omega
 ·have:=(key a haa).1.2.2;omega
theorem print_both(q:QP)(hq:okQP q)(i o:Int):FnK Tryz.prog 41 Tab [.g (enPP (ofQ16 q)),.d (.v (.int .i64 i)),.d (.v (.int .i64 o))] (prtR (ofQ16 q) i o):=by
 obtain⟨h1,h2,h3,h4⟩:=ofQ_bd q hq;have hl:lenPP (ofQ16 q):=⟨by omega,fun a ha=>by have:=(h2 a ha).2.2;omega⟩
 generalize ofQ16 q=p at*;refine propPrint p i o ⟨fun s hs=>⟨(h1.1 s hs).1.mono (by decide),(h1.1 s hs).2.mono (by decide)⟩,h1.2⟩ hl h4 fun h0=>?_;obtain⟨hi,ho,hin,hc,hbx,hn⟩:=chk_in (p:=p) h0;have hs:=sh_of h1 h2 h0;have hw:=rows_short hs;refine⟨by omega,hs.d,hs.s,fun a ha=>?_,okXs_w (by omega),by have:=allX_w (rowsP p i);omega⟩;obtain⟨g1,g2,g3⟩:=h2 a ha;exact fit_of hi ho (hin a ha) g1 (by decide) (Nat.le_refl _) g2 g3
inductive BkC (p:PP) (i o:Int):List DV→Prop
 | err (e:Int) (he:e≠0):BkC p i o (noTx e)
 | ok (h0:chkPP p i o=0) (hc:chX (rowsP p i)=0) (hl:(allX (rowsP p i)).length≤1000000):BkC p i o [.d (.v (.string (tx (allX (rowsP p i))))),.d (.v (.int .i64 0))]
theorem bkC(p:PP)(i o:Int):BkC p i o (prtR p i o):=by
 unfold prtR;split
 ·exact .err _ ‹_›
 ·rename_i h0;split
  ·exact .err _ (by decide)
  ·rename_i h1;exact .ok (Classical.byContradiction h0) (Classical.byContradiction fun h=>h1 (.inl h)) (by omega)
theorem small_nd{p:PP}{i o:Int}(h0:chkPP p i o=0)(h:smB p=true):ndT p.bad≤190:=by
 obtain⟨hi,ho,hin,hc,hbx,hn⟩:=chk_in h0;have h1:=chkT_nd hc;unfold smB at h;rw[cut_all (by omega),decide_eq_true_iff]at h;have:=noT_nd p.bad 190 (by decide) h;omega
theorem back_all(q:QP)(hq:okQP q)(x y:List NN)(hx:okP x)(hy:okP y)(h0:chkPP (ofQ16 q) (rats40 x).length (rats40 y).length=0)(hc:chX (rowsP (ofQ16 q) (rats40 x).length)=0)(hl:(allX (rowsP (ofQ16 q) (rats40 x).length)).length≤1000000)(hs:smB (ofQ16 q)=true){Kw:World→Prop}[KSt Kw][hT:KHas Kw Tab][KHas Kw MaxL]:∃ b:PP,FnK Tryz.prog 42 Kw [.d (.v (.string (tx (allX (rowsP (ofQ16 q) (rats40 x).length))))),.d (.v (.int .i64 ((rats40 x).length:Int))),.d (.v (.int .i64 ((rats40 y).length:Int)))] [.g (enPP b),.d (.v (.int .i64 0))]∧FnK Tryz.prog 41 Kw [.g (enPP b),.d (.v (.int .i64 ((rats40 x).length:Int))),.d (.v (.int .i64 ((rats40 y).length:Int)))] [.d (.v (.string (tx (allX (rowsP (ofQ16 q) (rats40 x).length))))),.d (.v (.int .i64 0))]∧Fn Tryz.prog 35 [.g (enPP b),.d (.l ((rats40 x).map enR)),.d (.l ((rats40 y).map enR))] [.d (.v (.bool (vioR (ofQ16 q) (rats40 x) (rats40 y)))),.d (.v (.int .i64 0))]:=by
 obtain⟨h1,h2,h3,h4⟩:=ofQ_bd q hq;obtain⟨hx1,hx2⟩:=rats_bd x hx;obtain⟨hy1,hy2⟩:=rats_bd y hy;generalize ofQ16 q=p at*;generalize rats40 x=rx at*;generalize rats40 y=ry at*;have hnd:=small_nd h0 hs;have hsh:=sh_of h1 h2 h0;have hbk:=chk_back h0 hnd;obtain⟨b1,b2,b3⟩:=back_bd h1 h2 h0 hnd;obtain⟨hi,ho,hin,hcc,hbx,hn⟩:=chk_in h0;obtain⟨ki,ko,kin,kc,kb,kn⟩:=chk_in hbk;have hokb:okT (bkP p).bad:=bk_ok p.ats p.bad 0 h4;have hpar:=propParse (Kw:=Kw) (allX (rowsP p rx.length)) rx.length ry.length (text_fine hsh hnd hc);rw[text_par h0 hnd hc hl]at hpar;have hrw:rowsP (bkP p) rx.length=rowsP p rx.length:=rows_back rx.length (chk_0 hcc);have hw:=rows_short hsh;have hpr:=propPrint (bkP p) rx.length ry.length ⟨fun s hs=>⟨(b1.1 s hs).1.mono (by decide),(b1.1 s hs).2.mono (by decide)⟩,b1.2⟩ b2 hokb fun _=>by
  refine⟨by omega,chkT_nd kc,chk_0 kc,fun a ha=>?_,?_,?_⟩
  ·obtain⟨⟨g1,g2,g3⟩,g4⟩:=b3 a ha;exact fit_of hi ho (kin a ha) g4 (Nat.le_refl _) (by decide) g2 g3
  ·rw[hrw];exact okXs_w (by omega)
  ·rw[hrw];have:=allX_w (rowsP p rx.length);omega
 unfold prtR at hpr;rw[if_neg (show ¬pChkE (chkT (bkP p).bad (bkP p).ats.length) (bkP p).box (bkP p).ats rx.length ry.length≠0 from fun h=>h hbk),hrw,if_neg (by rw[hc];omega)]at hpr;have hv:=violF (k:=3341) (n:=12) (bkP p) rx ry b1 (by decide) (by decide) b2 hokb (fun q hq=>(hx1 q hq).mono (by decide)) (fun q hq=>(hy1 q hq).mono (by decide)) (by omega) (fun a ha=>(b3 a ha).1) (by decide) hbk;refine⟨bkP p,hpar,hpr.to hT.1,?_⟩;rw[show (evT (bkP p).bad (valsP (bkP p).ats (rx++ry))&&insL (bkP p).box rx)=vioR (bkP p) rx ry from rfl,vio_back rx ry (chk_0 hcc)]at hv;exact hv
theorem propBackF{Kw:World→Prop}[KSt Kw][hT:KHas Kw Tab][KHas Kw MaxL](q:QP)(hq:okQP q)(x y:List NN)(hx:okP x)(hy:okP y):FnK Tryz.prog 10 Kw [.g (enQP q),.d (.l (x.map enN)),.d (.l (y.map enN))] [.d (.v (.bool true))]:=by
 have hw:=awake16 (Kw:=Kw);have hof:=of16 q hq;obtain⟨hx1,hx2⟩:=rats_bd x hx;obtain⟨hy1,hy2⟩:=rats_bd y hy;obtain⟨_,_,h3⟩:=chk16 q hq (rats40 x).length (rats40 y).length (by omega);obtain⟨g1,g2,g3,g4⟩:=ofQ_bd q hq;have hrx:=rats16 x hx;have hry:=rats16 y hy;have hnx:=nums (rats40 x) 256 (by decide) hx1 (by omega);have hny:=nums (rats40 y) 256 (by decide) hy1 (by omega);have hsm:=small16 (ofQ16 q) g4;have hmx:((rats40 x).map enR).length=(rats40 x).length:=List.length_map ..;have hmy:((rats40 y).map enR).length=(rats40 y).length:=List.length_map ..;have hp:=(print_both q hq (rats40 x).length (rats40 y).length).to hT.1;have hC:=bkC (ofQ16 q) (rats40 x).length (rats40 y).length;generalize prtR (ofQ16 q) (rats40 x).length (rats40 y).length=R at hp hC;cases hC with
 | err e he=>
   clear g1 g2 g3 g4 hx1 hy1;generalize smB (ofQ16 q)=sm at hsm;generalize ofQ16 q=p at*;generalize rats40 x=rx at*;generalize rats40 y=ry at*;unfold noTx at hp;obtain⟨bx,ats,bad⟩:=q;rw[show enQP ⟨bx,ats,bad⟩=[.l (bx.map enPr),.l (ats.map enAN)]++enF bad from rfl]at hof ⊢;refine FnK.of Tryz.func10 rfl (by kernel_rfl) Tryz.ntmps10 Tryz.results10 rfl fun w0 S0 hK0=>?_;refine wa ?_;refine c1 hrx ?_;refine wa ?_;exact⟨.d rfl (.inl rfl),trivial⟩
 | ok h0 hc hl=>
   obtain⟨_,hv2⟩:=viol_both q hq x y hx hy h0;cases hsb:smB (ofQ16 q)with
   | false=>
     rw[hsb]at hsm;clear g1 g2 g3 g4 hx1 hy1 hc hl h0 hsb hv2;generalize allX (rowsP (ofQ16 q) (rats40 x).length)=S at hp;generalize ofQ16 q=p at*;generalize rats40 x=rx at*;generalize rats40 y=ry at*;obtain⟨bx,ats,bad⟩:=q;rw[show enQP ⟨bx,ats,bad⟩=[.l (bx.map enPr),.l (ats.map enAN)]++enF bad from rfl]at hof ⊢;refine FnK.of Tryz.func10 rfl (by kernel_rfl) Tryz.ntmps10 Tryz.results10 rfl fun w0 S0 hK0=>?_;refine wa ?_;refine c1 hrx ?_;refine wa ?_;exact⟨.d rfl (.inl rfl),trivial⟩
   | true=>
   obtain⟨b,hb1,hb2,hb3⟩:=back_all q hq x y hx hy h0 hc hl hsb (Kw:=Kw);rw[hsb]at hsm;clear g1 g2 g3 g4 hx1 hy1 hc hl h0 hsb;generalize allX (rowsP (ofQ16 q) (rats40 x).length)=S at hp hb1 hb2;generalize vioR (ofQ16 q) (rats40 x) (rats40 y)=v at hb3 hv2;generalize cutP (ofQ16 q)=pq at*;generalize ofQ16 q=p at*;generalize rats40 x=rx at*;generalize rats40 y=ry at*;obtain⟨bx,ats,bad⟩:=q;rw[show enQP ⟨bx,ats,bad⟩=[.l (bx.map enPr),.l (ats.map enAN)]++enF bad from rfl]at hof ⊢;cases v
   all_goals
    refine FnK.of Tryz.func10 rfl (by kernel_rfl) Tryz.ntmps10 Tryz.results10 rfl fun w0 S0 hK0=>?_;refine wa ?_;refine c1 hrx ?_;refine wa ?_;refine c1 hb2 ?_;refine wa ?_;refine c1 hrx ?_;refine wa ?_;refine c1 hrx ?_;refine c1 hnx ?_;refine wa ?_;exact⟨.d rfl (.inl rfl),trivial⟩
end Go.Proofs.YthdkkpocihkgbaaGreatDoor
