import Derived.Test.YtbbpecfapohlaaaGreatDoorSmL
import Derived.Test.YtbbpecfapohlaaaGreatDoorBitsW
import Derived.Test.YtbbpecfapohlaaaGreatDoorBr
import Derived.Test.YtbbpecfapohlaaaGreatDoorTb
import Derived.Test.YtbbpecfapohlaaaGreatDoorTy
import Derived.Test.YtbbpecfapohlaaaGreatDoorRef8
import Derived.Test.YtbbpecfapohlaaaGreatDoorAtm
import Derived.Test.YtbbpecfapohlaaaGreatDoorSmG
import Derived.Test.YtbbpecfapohlaaaGreatDoorSmJ
import Derived.Test.YtbbpecfapohlaaaGreatDoorSmB
import Derived.Test.YtbbpecfapohlaaaGreatDoorOpA
import Derived.Test.YtbbpecfapohlaaaGreatDoorStS
import Derived.Test.YtbbpecfapohlaaaGreatDoorCl
set_option maxRecDepth 100000
set_option maxHeartbeats 16000000
namespace Go.Proofs.YtbbpecfapohlaaaGreatDoor
open Go.RowKit
attribute [local irreducible] AC Do St
theorem looP_great{p:SP}(h:greatP p):looP p=2:=by unfold looP;rw[if_pos h]
theorem looP_yes{p:SP}(h:Loose p):looP p=0:=by unfold looP;rw[if_neg h.g,if_pos h]
theorem looP_no{p:SP}(h:¬ greatP p)(h1:¬ Loose p):looP p=4:=by unfold looP;rw[if_neg h,if_neg h1]
theorem looP_zero{p:SP}(h:looP p=0):Loose p:=by
 by_cases h1:greatP p
 ·rw[looP_great h1]at h;omega
 by_cases h2:Loose p
 ·exact h2
 ·rw[looP_no h1 h2]at h;omega
def zeroSP:List D:=[.v (.int .i64 0),.v (.int .i64 0),.l [],.l []]
noncomputable def tiR (p:SP):List DV:=if looP p=0 then [.g (enSP (tidP p)),.d (.v (.int .i64 0))]else [.g zeroSP,.d (.v (.int .i64 (looP p)))]
theorem smtTidy(p:SP)(hp:OkSP p):FnK Tryz.prog 16 Tab [.g (enSP p)] (tiR p):=by
 have han:=hp.an;have hcn:=hp.cn;have hg:=smtGreat p (by omega) (by omega);have hR4:¬ greatP p→¬ Loose p→tiR p=[.g zeroSP,.d (.v (.int .i64 4))]:=fun h h1=>by unfold tiR;rw[looP_no h h1,if_neg (by omega)]
 have hR2:greatP p→tiR p=[.g zeroSP,.d (.v (.int .i64 2))]:=fun h=>by unfold tiR;rw[looP_great h,if_neg (by omega)]
 have hR0:Loose p→tiR p=[.g (enSP (tidP p)),.d (.v (.int .i64 0))]:=fun h=>by unfold tiR;rw[looP_yes h,if_pos rfl]
 generalize tiR p=R at hR4 hR2 hR0;by_cases h0:greatP p
 ·obtain rfl:=hR2 h0;rw[decide_eq_true h0]at hg;refine FnK.of Tryz.func16 rfl (by kernel_rfl) Tryz.ntmps16 Tryz.results16 rfl fun w0 S0 hK0=>?_;refine wa ?_;exact⟨.cn rfl rfl inferInstance rfl ⟨.inl rfl,.inl rfl,.inr rfl,.inr rfl,trivial⟩,.d rfl (.inl rfl),trivial⟩
 rw[decide_eq_false h0]at hg;have hR4:=hR4 h0;clear hR2;by_cases h1:p.r<0
 ·obtain rfl:=hR4 fun h=>by have:=h.r;omega
  refine FnK.of Tryz.func16 rfl (by kernel_rfl) Tryz.ntmps16 Tryz.results16 rfl fun w0 S0 hK0=>?_;refine wa ?_;exact⟨.cn rfl rfl inferInstance rfl ⟨.inl rfl,.inl rfl,.inr rfl,.inr rfl,trivial⟩,.d rfl (.inl rfl),trivial⟩
 by_cases h2:p.b<0
 ·obtain rfl:=hR4 fun h=>by have:=h.b;omega
  refine FnK.of Tryz.func16 rfl (by kernel_rfl) Tryz.ntmps16 Tryz.results16 rfl fun w0 S0 hK0=>?_;refine wa ?_;exact⟨.cn rfl rfl inferInstance rfl ⟨.inl rfl,.inl rfl,.inr rfl,.inr rfl,trivial⟩,.d rfl (.inl rfl),trivial⟩
 have hb1:p.b≤1000:=Int.not_lt.1 fun h=>h0 (.inr (.inl h));have hb0:0≤p.b:=by omega
 have htid:=tidiedF p hp;have hins:=fun x (hx:x∈p.a)=>smtInside p x (by have:=(hp.a x hx).sm.n;omega);have hkno:=fun l (hl:inR l)=>smtKnown p l hb0 hb1 hl (by omega);have hcl:=hp.cl;have hA:∀ x∈p.a,¬(okOp x.op∧insA p.r x)→¬ Loose p:=fun x hx h h1=>h (h1.a x hx);have hC:∀ c∈p.c,∀l∈c,¬knoL p.b p.a.length l→¬ Loose p:=fun c hc l hl h h1=>h (h1.c c hc l hl);have hL:(∀x∈p.a,okOp x.op∧insA p.r x)→(∀c∈p.c,∀l∈c,knoL p.b p.a.length l)→Loose p:=fun h h1=>⟨h0,by omega,hb0,h,h1⟩
 have hla:(p.a.map enA).length=p.a.length:=List.length_map ..;have hlc:(p.c.map enCl).length=p.c.length:=List.length_map ..;clear hp;refine FnK.of Tryz.func16 rfl (by kernel_rfl) Tryz.ntmps16 Tryz.results16 rfl fun w0 S0 hK0=>?_;refine wa ?_;refine AC.loop (X:=Nat) (fun i=>⟨[(1,.p 1 0),(2,.p 2 0),(23,.d (.l (p.a.map enA))),(24,.d (.v (.int .i64 (p.a.length:Int)))),(25,.d (.v (.int .i64 (i:Int))))],[(1,.box 29 ((enSP p).map .d)),(2,.box 29 [.d (.v (.int .i64 0)),.d (.v (.int .i64 0)),.d .n,.d .n])]⟩) (fun i=>i≤p.a.length∧∀ x∈p.a.take i,okOp x.op∧insA p.r x) (fun i=>p.a.length-i) 0 ⟨Nat.zero_le _,fun l hl=>by simp at hl⟩ ⟨rfl,rfl,rfl,rfl,rfl,trivial⟩ ⟨rfl,rfl,trivial⟩ ?_;intro i ⟨hi,hgd⟩;dsimp only at hi hgd ⊢;by_cases h5:i<p.a.length
 ·have hx:=List.getElem?_eq_getElem h5;have hm:=List.getElem_mem h5;have hbad:=hA _ hm;have hs:(okOp p.a[i].op∧insA p.r p.a[i])→∀ x∈p.a.take (i+1),okOp x.op∧insA p.r x:=all_take' (P:=fun x=>okOp x.op∧insA p.r x) h5 hgd;have hi1:=hins _ hm;generalize p.a[i]=x at hx hm hbad hs hi1;clear hins hA hL hkno hC;by_cases k1:okOp x.op
  ·have hch:=checkA x k1;by_cases k2:insA p.r x
   ·rw[decide_eq_true k2]at hi1;refine wa ?_;exact⟨i+1,⟨h5,hs ⟨k1,k2⟩⟩,by omega,⟨rfl,rfl,rfl,rfl,rfl,trivial⟩,⟨rfl,rfl,trivial⟩⟩
   ·rw[decide_eq_false k2]at hi1;obtain rfl:=hR4 (hbad fun h=>k2 h.2);refine wa ?_;exact⟨.cn rfl rfl inferInstance rfl ⟨.inl rfl,.inl rfl,.inr rfl,.inr rfl,trivial⟩,.d rfl (.inl rfl),trivial⟩
  ·have hch:=checkNo x k1;obtain rfl:=hR4 (hbad fun h=>k1 h.1);refine wa ?_;exact⟨.cn rfl rfl inferInstance rfl ⟨.inl rfl,.inl rfl,.inr rfl,.inr rfl,trivial⟩,.d rfl (.inl rfl),trivial⟩
 ·rw[List.take_of_length_le (by omega)]at hgd;have hL:=hL hgd;clear hins hA hgd;refine wa ?_;refine AC.loop (X:=Nat) (fun i=>⟨[(1,.p 1 0),(2,.p 2 0),(41,.d (.l (p.c.map enCl))),(42,.d (.v (.int .i64 (p.c.length:Int)))),(43,.d (.v (.int .i64 (i:Int))))],[(1,.box 29 ((enSP p).map .d)),(2,.box 29 [.d (.v (.int .i64 0)),.d (.v (.int .i64 0)),.d .n,.d .n])]⟩) (fun i=>i≤p.c.length∧∀ x∈p.c.take i,∀l∈x,knoL p.b p.a.length l) (fun i=>p.c.length-i) 0 ⟨Nat.zero_le _,fun l hl=>by simp at hl⟩ ⟨rfl,rfl,rfl,rfl,rfl,trivial⟩ ⟨rfl,rfl,trivial⟩ ?_;intro i ⟨hi,hgd⟩;dsimp only at hi hgd ⊢;by_cases h5:i<p.c.length
  ·have hx:=List.getElem?_eq_getElem h5;have hm:=List.getElem_mem h5;have hbad:=hC _ hm;have hs:(∀l∈p.c[i],knoL p.b p.a.length l)→∀ x∈p.c.take (i+1),∀l∈x,knoL p.b p.a.length l:=all_take' (P:=fun x=>∀ l∈x,knoL p.b p.a.length l) h5 hgd;obtain⟨hn,hr⟩:=hcl _ hm;generalize p.c[i]=x at hx hm hbad hs hn hr;clear hC hcl hL htid;have hlx:(x.map zI).length=x.length:=List.length_map ..;refine wa ?_;refine AC.loop (X:=Nat) (fun j=>⟨[(1,.p 1 0),(2,.p 2 0),(41,.d (.l (p.c.map enCl))),(42,.d (.v (.int .i64 (p.c.length:Int)))),(43,.d (.v (.int .i64 (i:Int)))),(47,.d (enZ x)),(48,.d (.v (.int .i64 (x.length:Int)))),(49,.d (.v (.int .i64 (j:Int))))],[(1,.box 29 ((enSP p).map .d)),(2,.box 29 [.d (.v (.int .i64 0)),.d (.v (.int .i64 0)),.d .n,.d .n])]⟩) (fun j=>j≤x.length∧∀ l∈x.take j,knoL p.b p.a.length l) (fun j=>x.length-j) 0 ⟨Nat.zero_le _,fun l hl=>by simp at hl⟩ ⟨rfl,rfl,rfl,rfl,rfl,rfl,rfl,rfl,trivial⟩ ⟨rfl,rfl,trivial⟩ ?_;intro j ⟨hj,hk⟩;dsimp only at hj hk ⊢;by_cases h6:j<x.length
   ·have gx:=List.getElem?_eq_getElem h6;have gm:=List.getElem_mem h6;have gk:knoL p.b p.a.length x[j]→∀ l∈x.take (j+1),knoL p.b p.a.length l:=all_take' (P:=knoL p.b p.a.length) h6 hk;have hkn:=hkno _ (hr _ gm);have gb:=hbad _ gm;generalize x[j]=u at gx gm gk hkn gb;clear hkno;by_cases k4:knoL p.b p.a.length u
    ·rw[decide_eq_true k4]at hkn;refine wa ?_;exact⟨j+1,⟨h6,gk k4⟩,by omega,⟨rfl,rfl,rfl,rfl,rfl,rfl,rfl,rfl,trivial⟩,⟨rfl,rfl,trivial⟩⟩
    ·rw[decide_eq_false k4]at hkn;obtain rfl:=hR4 (gb k4);refine wa ?_;exact⟨.cn rfl rfl inferInstance rfl ⟨.inl rfl,.inl rfl,.inr rfl,.inr rfl,trivial⟩,.d rfl (.inl rfl),trivial⟩
   ·rw[List.take_of_length_le (by omega)]at hk;refine wa ?_;exact⟨i+1,⟨h5,hs hk⟩,by omega,⟨rfl,rfl,rfl,rfl,rfl,trivial⟩,⟨rfl,rfl,trivial⟩⟩
  ·rw[List.take_of_length_le (by omega)]at hgd;have hL:=hL hgd;have htid:=htid hL;obtain rfl:=hR0 hL;generalize tidP p=q at htid ⊢;clear hkno;refine wa ?_;exact⟨.cn rfl rfl inferInstance rfl ⟨.inl rfl,.inl rfl,.inl rfl,.inl rfl,trivial⟩,.d rfl (.inl rfl),trivial⟩
end Go.Proofs.YtbbpecfapohlaaaGreatDoor
namespace Go.Proofs.YtbbpecfapohlaaaGreatDoor
open Go.RowKit
attribute [local irreducible] AC Do St
def nexL(b:Int)(ts c:List Int):List Int:=(c.map (renV b ts)).filter fun v=>decide (v≠big40∧v≠ -big40)
theorem nexL_eq{b:Int}{ts c:List Int}(h:¬ big40∈c.map (renV b ts)):nexL b ts c=renL b ts c:=by
 unfold nexL renL;refine List.filter_congr fun v hv=>?_;have:v≠big40:=fun e=>h (e▸hv);simp[this]
theorem kept{b:Int}{ts c:List Int}(hok:¬ big40∈c.map (renV b ts)→∀ v∈renL b ts c,okLi v):
  (renC b ts c=none∧¬ (¬big40∈c.map (renV b ts)∧∀ m∈nexL b ts c,-m∉nexL b ts c))∨(renC b ts c=some (canI (nexL b ts c))∧(¬big40∈c.map (renV b ts)∧∀ m∈nexL b ts c,-m∉nexL b ts c)):=by
 unfold renC;by_cases h1:big40∈c.map (renV b ts)
 ·rw[if_pos h1];exact .inl ⟨rfl,fun h=>h.1 h1⟩
 ·rw[if_neg h1,nexL_eq h1];have hal:=altB_iff (canI_srt (renL b ts c)) fun l hl=>hok h1 l ((canI_mem _ _).1 hl);by_cases h2:altB (canI (renL b ts c))=true
  ·rw[if_pos h2];obtain⟨m,m1,m2⟩:=hal.1 h2;exact .inl ⟨rfl,fun h=>h.2 m ((canI_mem _ _).1 m1) ((canI_mem _ _).1 m2)⟩
  ·rw[if_neg h2];exact .inr ⟨rfl,h1,fun m m1 m2=>h2 (hal.2 ⟨m,(canI_mem _ _).2 m1,(canI_mem _ _).2 m2⟩)⟩
end Go.Proofs.YtbbpecfapohlaaaGreatDoor
namespace Go.Proofs.YtbbpecfapohlaaaGreatDoor
open Go.RowKit
attribute [local irreducible] AC Do St
theorem pt_ok{l:List (Bool×List Nat×List Nat)}(h:okP l):OkXs (ptN l):=⟨fun q hq=>(ptN_bd h q hq).mono (by omega),ptN_len l⟩
section
variable {Kw:World→Prop}[KSt Kw][KHas Kw Tab][KHas Kw MaxL]
end
end Go.Proofs.YtbbpecfapohlaaaGreatDoor
namespace Go.Proofs.YtbbpecfapohlaaaGreatDoor
open Go.RowKit
attribute [local irreducible] AC Do St
theorem sumD(e:Ex)(hs:Sm 12 6682 e):Fn Tryz.prog 216 [.g (enQ ((1:Int):Rat)),.g (enEQ e),.g (enQ ((-1:Int):Rat)),.g (enEQ e)] [.g (.l []::enQ 0)]:=by
 have b1:Bd 1 ((1:Int):Rat):=⟨by decide,by decide⟩
 have b2:Bd 1 ((-1:Int):Rat):=⟨by decide,by decide⟩
 have hn:=hs.n;have m1:=qMul b1 hs.c (by omega);have m2:=qMul b2 hs.c (by omega);have ad:=qAdd (b1.mul hs.c) (b2.mul hs.c) (by omega);have hz:∀ x:Rat,((1:Int):Rat)*x+((-1:Int):Rat)*x=0:=fun x=>by
  show (1:Rat)*x+(-1:Rat)*x=0;grind
 rw[hz]at ad;have hv:=varsQ [e,e] (by simp) (fun x hx=>by
  have:x=e:=by simpa using hx
  rw[this];omega)
 have hvl:(varsE [e,e]).length≤1000:=by
  have h3:=(varsE_spec [e,e]).2.2;simp[tot]at h3;omega
 have hco:=fun v=>coefTQ e v (by have:=tb_bd hs.t;have h:e.t.length*6683≤12*6683:=Nat.mul_le_mul_right _ hn;omega);have hcb:∀ v,Bd 100000 (coef e.t v):=fun v=>(coef_tb e.t v).mono (by have:=tb_bd hs.t;have h:e.t.length*6683≤12*6683:=Nat.mul_le_mul_right _ hn;omega);have hVl:((varsE [e,e]).map zI).length=(varsE [e,e]).length:=List.length_map ..;have hsg:=qSign 0;rw[show sgnR 0=0 from rfl]at hsg;generalize varsE [e,e]=V at hv hvl hVl;generalize ((1:Int):Rat)*e.c=x1 at m1 ad;generalize ((-1:Int):Rat)*e.c=x2 at m2 ad;refine Fn.of Tryz.func216 rfl (by kernel_rfl) Tryz.ntmps216 Tryz.results216 rfl fun w0 S0=>?_;refine wa ?_;refine c1 m1 ?_;refine wa ?_;refine AC.loop (X:=Nat) (fun i=>⟨[(4,.p 4 0),(5,.p 5 0),(6,.p 6 0),(7,.p 7 0),(8,.p 8 0),(9,.p 9 0),(26,.d (enI V)),(27,.d (.v (.int .i64 (V.length:Int)))),(28,.d (.v (.int .i64 (i:Int))))],[(4,.box 136 ((enQ ((1:Int):Rat)).map .d)),(5,.box 140 ((enEQ e).map .d)),(6,.box 136 ((enQ ((-1:Int):Rat)).map .d)),(7,.box 140 ((enEQ e).map .d)),(8,.box 140 [.d .n,.d (.v (.bool false)),.d .n,.d .n]),(9,.box 140 (.d .n::(enQ 0).map .d))]⟩) (fun i=>i≤V.length) (fun i=>V.length-i) 0 (Nat.zero_le _) ⟨rfl,rfl,rfl,rfl,rfl,rfl,rfl,rfl,rfl,trivial⟩ ⟨rfl,rfl,rfl,rfl,rfl,rfl,trivial⟩ ?_;intro i hi;dsimp only at hi ⊢;clear hv m1 m2 ad;by_cases h1:i<V.length
 ·have gv:=List.getElem?_eq_getElem h1;generalize V[i]=v at gv;have q0:=hco v;have m1:=qMul b1 (hcb v) (by omega);have m2:=qMul b2 (hcb v) (by omega);have ad:=qAdd (b1.mul (hcb v)) (b2.mul (hcb v)) (by omega);rw[hz]at ad;generalize ((1:Int):Rat)*coef e.t v=y1 at m1 ad;generalize ((-1:Int):Rat)*coef e.t v=y2 at m2 ad;generalize coef e.t v=y at q0 m1 m2;clear hco hcb hz;refine wa ?_;refine c1 m1 ?_;refine wa ?_;exact⟨i+1,h1,by omega,⟨rfl,rfl,rfl,rfl,rfl,rfl,rfl,rfl,rfl,trivial⟩,⟨rfl,rfl,rfl,rfl,rfl,rfl,trivial⟩⟩
 ·refine wa ?_;exact⟨.cn rfl rfl inferInstance rfl ⟨.inr rfl,.inl rfl,.inl rfl,.inl rfl,trivial⟩,trivial⟩
theorem subD(e:Ex)(hs:Sm 12 6682 e):Fn Tryz.prog 138 [.g (enEQ e),.g (enEQ e)] [.g (.l []::enQ 0)]:=by
 have q1:=qInt 1 (by omega) (by omega);have q2:=qInt (-1) (by omega) (by omega);have hd:=sumD e hs;refine Fn.of Tryz.func138 rfl (by kernel_rfl) Tryz.ntmps138 Tryz.results138 rfl fun w0 S0=>?_;refine wa ?_;refine c1 q1 ?_;refine wa ?_;exact⟨.cn rfl rfl inferInstance rfl ⟨.inl rfl,.inl rfl,.inl rfl,.inl rfl,trivial⟩,trivial⟩
theorem same08D(e:Ex)(hs:Sm 12 6682 e):Fn Tryz.prog 75 [.g (enEQ e),.g (enEQ e)] [.d (.v (.bool true))]:=by
 have hd:=subD e hs;have hsg:=qSign 0;rw[show sgnR 0=0 from rfl]at hsg;have hl0:([]:List (List D)).length=0:=rfl;refine Fn.of Tryz.func75 rfl (by kernel_rfl) Tryz.ntmps75 Tryz.results75 rfl fun w0 S0=>?_;refine wa ?_;exact⟨.d rfl (.inl rfl),trivial⟩
theorem same14(p:SP)(hp:OkSP p)(hk:chkP p=0):Fn Tryz.prog 29 [.g (enSPQ p),.g (enSPQ p)] [.d (.v (.bool true))]:=by
 classical
 obtain⟨_,_,_,hA,_⟩:=chkP_zero hk;have han:=hp.an;have hcn:=hp.cn;have hla:(p.a.map enAQ).length=p.a.length:=List.length_map ..;have hlc:(p.c.map enCl).length=p.c.length:=List.length_map ..;have hat:∀ i (h:i<p.a.length),Fn Tryz.prog 75 [.g (enEQ p.a[i].e),.g (enEQ p.a[i].e)] [.d (.v (.bool true))]∧Fn Tryz.prog 76 [.g (enEQ p.a[i].e)] [.d (.v (.bool true))]:=fun i h=>by
  have ho:=hp.a _ (List.getElem_mem h);have hf:=((canP_one _).1 (hA i h).2.2).2.2.1;have q:=formQ p.a[i].e (by have:=ho.sm.n;omega);rw[decide_eq_true hf]at q;exact⟨same08D _ ho.sm,q⟩
 have hcl:∀ i (h:i<p.c.length),Fn Tryz.prog 77 [.d (enZ p.c[i]),.d (enZ p.c[i])] [.d (.v (.bool true))]:=fun i h=>by
  have q:=same13 p.c[i] p.c[i] (by have:=(hp.cl _ (List.getElem_mem h)).1;omega);rw[decide_eq_true rfl]at q;exact q
 clear hA hk;refine Fn.of Tryz.func29 rfl (by kernel_rfl) Tryz.ntmps29 Tryz.results29 rfl fun w0 S0=>?_;refine wa ?_;refine AC.loop (X:=Nat) (fun i=>⟨[(2,.p 2 0),(3,.p 3 0),(41,.d (.v (.int .i64 (p.a.length:Int)))),(42,.d (.v (.int .i64 (i:Int))))],[(2,.box 42 ((enSPQ p).map .d)),(3,.box 42 ((enSPQ p).map .d))]⟩) (fun i=>i≤p.a.length) (fun i=>p.a.length-i) 0 (Nat.zero_le _) ⟨rfl,rfl,rfl,rfl,trivial⟩ ⟨rfl,rfl,trivial⟩ ?_;intro i hi;dsimp only at hi ⊢;by_cases h1:i<p.a.length
 ·have ga:=List.getElem?_eq_getElem h1;obtain⟨q1,q2⟩:=hat i h1;generalize p.a[i]=a at ga q1 q2;clear hat hcl hp;refine wa ?_;exact⟨i+1,h1,by omega,⟨rfl,rfl,rfl,rfl,trivial⟩,⟨rfl,rfl,trivial⟩⟩
 ·clear hat;refine wa ?_;refine AC.loop (X:=Nat) (fun i=>⟨[(2,.p 2 0),(3,.p 3 0),(83,.d (.v (.int .i64 (p.c.length:Int)))),(84,.d (.v (.int .i64 (i:Int))))],[(2,.box 42 ((enSPQ p).map .d)),(3,.box 42 ((enSPQ p).map .d))]⟩) (fun i=>i≤p.c.length) (fun i=>p.c.length-i) 0 (Nat.zero_le _) ⟨rfl,rfl,rfl,rfl,trivial⟩ ⟨rfl,rfl,trivial⟩ ?_;intro j hj;dsimp only at hj ⊢;by_cases h2:j<p.c.length
  ·have gc:=List.getElem?_eq_getElem h2;have q1:=hcl j h2;generalize p.c[j]=c at gc q1;clear hcl hp;refine wa ?_;exact⟨j+1,h2,by omega,⟨rfl,rfl,rfl,rfl,trivial⟩,⟨rfl,rfl,trivial⟩⟩
  ·clear hcl hp;refine wa ?_;exact⟨.d rfl (.inl rfl),trivial⟩
end Go.Proofs.YtbbpecfapohlaaaGreatDoor
namespace Go.Proofs.YtbbpecfapohlaaaGreatDoor
open Go.RowKit
section
variable {H:Type}{enc:TypeId×Value→H}{W:World}
theorem rU32{ds:List D}(h:QInt .u32 ds):QOf (fun c:Nat=>[.v (encU c)]) (fun c=>c<4294967296) ds:=by
 obtain⟨n,rfl,h1,h2⟩:=h;simp[IntKind.min,IntKind.max,IntKind.signed,IntKind.bits]at h1 h2;exact⟨n.toNat,by unfold encU;simp only;rw[Int.toNat_of_nonneg h1],by omega⟩
theorem rN{ds:List D}(h:QAll [QBool,QList (QInt .u32),QList (QInt .u32)] ds):QOf enN okN ds:=by
 obtain⟨a,b,c,rfl,⟨n,rfl⟩,hb,hc⟩:=h.three;obtain⟨l,rfl,hl,_⟩:=QList.of (fun _=>rU32) hb;obtain⟨m,rfl,hm,_⟩:=QList.of (fun _=>rU32) hc;exact⟨(n,l,m),rfl,hl,hm⟩
theorem rodI(m:Nat):OD enc Tryz.prog W m 3 (QInt .i64):=OD.int (by kernel_rfl) m
theorem rodUs(m:Nat):OD enc Tryz.prog W m 102 (QList (QInt .u32)):=by
 cases m with
 | zero=>intro n hn;omega
 | succ m=>exact OD.slice (e:=225) (by kernel_rfl) (k:=0) (by kernel_rfl) (OD.int (by kernel_rfl) m)
theorem rodIs(m:Nat):OD enc Tryz.prog W m 55 (QList (QInt .i64)):=by
 cases m with
 | zero=>intro n hn;omega
 | succ m=>exact OD.slice (by kernel_rfl) (k:=0) (by kernel_rfl) (rodI m)
theorem rodN(m:Nat):OD enc Tryz.prog W m 112 (QOf enN okN):=by
 cases m with
 | zero=>intro n hn;omega
 | succ m=>exact(OD.fields (l:=[(4,0),(102,1),(102,2)]) (Qs:=[QBool,QList (QInt .u32),QList (QInt .u32)]) (by kernel_rfl) (by kernel_rfl) ⟨OD.bool (by kernel_rfl) m,rodUs m,rodUs m,trivial⟩).imp fun _=>rN
theorem rodNs(m:Nat):OD enc Tryz.prog W m 48 (QList (QOf enN okN)):=by
 cases m with
 | zero=>intro n hn;omega
 | succ m=>exact OD.slice (by kernel_rfl) (k:=2) (by kernel_rfl) (rodN m)
end
end Go.Proofs.YtbbpecfapohlaaaGreatDoor
namespace Go.Proofs.YtbbpecfapohlaaaGreatDoor
open Go.RowKit
def okSA(s:SN):Prop:=okSN s∧inR s.rule∧inR s.idx∧(∀x∈s.cl,inR x)∧∀ x∈s.pr,inR x
section
variable {H:Type}{enc:TypeId×Value→H}{W:World}
theorem inR_of{n:Int}(h1:IntKind.i64.min≤n)(h2:n≤IntKind.i64.max):inR n:=by
 simp[IntKind.min,IntKind.max,IntKind.signed,IntKind.bits]at h1 h2;exact⟨by omega,by omega⟩
theorem rIA{ds:List D}(h:QInt .i64 ds):QOf (fun v:Int=>[D.v (.int .i64 v)]) inR ds:=by
 obtain⟨n,rfl,h1,h2⟩:=h;exact⟨n,rfl,inR_of h1 h2⟩
theorem rodSA(m:Nat):OD enc Tryz.prog W m 124 (QOf enSN okSA):=by
 cases m with
 | zero=>intro n hn;omega
 | succ m=>
   refine(OD.fields (l:=[(3,0),(55,1),(3,2),(55,3),(48,4)]) (Qs:=[QInt .i64,QList (QInt .i64),QInt .i64,QList (QInt .i64),QList (QOf enN okN)]) (by kernel_rfl) (by kernel_rfl) ⟨rodI m,rodIs m,rodI m,rodIs m,rodNs m,trivial⟩).imp fun ds h=>?_;obtain⟨a,r1,rfl,⟨x,rfl,x1,x2⟩,b,r2,rfl,hb,h3⟩:=h;obtain⟨c,d,e,rfl,⟨y,rfl,y1,y2⟩,hd,he⟩:=QAll.three h3;obtain⟨l,rfl,hl0,hl⟩:=QList.of (fun _=>rIA) hb;obtain⟨p,rfl,hp0,hp⟩:=QList.of (fun _=>rIA) hd;obtain⟨t,rfl,ht,htl⟩:=QList.of (fun _ h=>h) he;exact⟨⟨x,l,y,p,t⟩,rfl,⟨ht,hl,hp,htl⟩,inR_of x1 x2,inR_of y1 y2,hl0,hp0⟩
theorem odSA(m:Nat):OD enc Tryz.prog W m 26 (QList (QOf enSN okSA)):=by
 cases m with
 | zero=>intro n hn;omega
 | succ m=>exact OD.slice (by kernel_rfl) (k:=4) (by kernel_rfl) (rodSA m)
end
end Go.Proofs.YtbbpecfapohlaaaGreatDoor
