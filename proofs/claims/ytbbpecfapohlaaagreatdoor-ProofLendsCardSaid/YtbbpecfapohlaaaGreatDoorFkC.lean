import Derived.Test.YtbbpecfapohlaaaGreatDoorFkB
set_option maxRecDepth 100000
set_option maxHeartbeats 8000000
namespace Go.Proofs.YtbbpecfapohlaaaGreatDoor
open Go.RowKit
attribute [local irreducible] AC Do St
noncomputable def sumN (L:List At)(T:List Rat):Nat→Ex
 | 0=>⟨[],0⟩
 | i+1=>match L[i]?,T[i]? with
   | some a,some t=>addE (sumN L T i) (scaleE t a.e)
   | _,_=>sumN L T i
theorem sumN_s{L:List At}{T:List Rat}{i:Nat}(h1:i<L.length)(h2:i<T.length):sumN L T (i+1)=addE (sumN L T i) (scaleE T[i] L[i].e):=by
 rw[sumN,List.getElem?_eq_getElem h1,List.getElem?_eq_getElem h2]
theorem sumN_co(L:List At)(T:List Rat)(v:Int):∀ i,coef (sumN L T i).t v=atQ L T v i
 | 0=>rfl
 | i+1=>by
   have ih:=sumN_co L T v i;cases ha:L[i]? with
   | none=>rw[sumN,atQ,ha];exact ih
   | some a=>cases ht:T[i]? with
     | none=>rw[sumN,atQ,ha,ht];exact ih
     | some t=>
       rw[sumN,atQ,ha,ht];show coef (canL ((sumN L T i).t++canL (a.e.t.map (mulT t)))) v=atQ L T v i+t*coef a.e.t v;rw[(canL_spec _).2.1,coef_append,ih,(canL_spec _).2.1];show _+coef (a.e.t.map fun u=>(u.1,t*u.2)) v=_;rw[coef_map]
theorem sumN_c(L:List At)(T:List Rat):∀ i,(sumN L T i).c=coQ L T i
 | 0=>rfl
 | i+1=>by
   have ih:=sumN_c L T i;cases ha:L[i]? with
   | none=>rw[sumN,coQ,ha];exact ih
   | some a=>cases ht:T[i]? with
     | none=>rw[sumN,coQ,ha,ht];exact ih
     | some t=>
       rw[sumN,coQ,ha,ht];show (sumN L T i).c+t*a.e.c=_;rw[ih]
theorem sumN_form(L:List At)(T:List Rat):∀ i,Form (sumN L T i).t
 | 0=>(⟨.nil,by simp⟩:Form [])
 | i+1=>by
   have ih:=sumN_form L T i;cases ha:L[i]? with
   | none=>rw[sumN,ha];exact ih
   | some a=>cases ht:T[i]? with
     | none=>rw[sumN,ha,ht];exact ih
     | some t=>
       rw[sumN,ha,ht];exact(canL_spec _).1
theorem scl_tb{L:List At}{T:List Rat}(h:FkL L T){a:At}{t:Rat}(ha:a∈L)(ht:t∈T):tb (a.e.t.map (mulT t))≤103080:=by
 have h3:=tb_mul t a.e.t;have h4:=h.a a ha;have h5:=bz_le (h.t t ht);have h6:a.e.t.length*bz t≤12*256:=Nat.mul_le_mul h4.n h5;have:=h4.tb;omega
theorem sumN_tb{L:List At}{T:List Rat}(h:FkL L T):∀ i,tb (sumN L T i).t≤i*103100
 | 0=>by rw[sumN];simp[tb]
 | i+1=>by
   have ih:=sumN_tb h i;cases ha:L[i]? with
   | none=>rw[sumN,ha];exact Nat.le_trans ih (by omega)
   | some a=>cases ht:T[i]? with
     | none=>rw[sumN,ha,ht];exact Nat.le_trans ih (by omega)
     | some t=>
       rw[sumN,ha,ht];show tb (canL ((sumN L T i).t++canL (a.e.t.map (mulT t))))≤_;have h1:=canL_tb ((sumN L T i).t++canL (a.e.t.map (mulT t)));rw[tb_app]at h1;have h2:=canL_tb (a.e.t.map (mulT t));have h3:=scl_tb h (List.mem_of_getElem? ha) (List.mem_of_getElem? ht);omega
theorem sumN_nil(L:List At)(T:List Rat)(i:Nat):(sumN L T i).t=[]↔∀ v,atQ L T v i=0:=by
 constructor
 ·intro h v;rw[←sumN_co,h];rfl
 ·intro h;refine form_inj (sumN_form L T i) ⟨.nil,by simp⟩ fun v=>?_;rw[sumN_co,h];rfl
noncomputable def skR (L:List At)(T:List Rat):List DV:=if fkI L T=0 then [.g (enE (sumN L T L.length)),.d (.v (.bool (stQ L T L.length))),.d (.v (.int .i64 0))]else [.g (enE ⟨[],0⟩),.d (.v (.bool false)),.d (.v (.int .i64 (fkI L T)))]
theorem enE_zero:enE ⟨[],0⟩=[.l [],.v (.bool false),.l [],.l []]:=by
 show D.l []::enR 0=_;rw[enR_zero]
theorem farkasSum(L:List At)(T:List Rat)(h:FkL L T):Fn Tryz.prog 197 [.d (.l (L.map enA)),.d (.l (T.map enR))] (skR L T):=by
 have hL:(L.map enA).length=L.length:=List.length_map ..;have hT2:(T.map enR).length=T.length:=List.length_map ..;have hn:=h.n;obtain⟨R,hR⟩:∃ R,skR L T=R:=⟨_,rfl⟩
 rw[hR];unfold skR at hR;by_cases hl:L.length=T.length
 ·have hR1:bdQ L T L.length=true→R=[.g (enE ⟨[],0⟩),.d (.v (.bool false)),.d (.v (.int .i64 4))]:=fun h=>by
   have e:fkI L T=4:=by unfold fkI;rw[if_neg (fun h=>h hl),if_pos h]
   rw[←hR,e];rfl
  have hR0:bdQ L T L.length=false→R=[.g (enE (sumN L T L.length)),.d (.v (.bool (stQ L T L.length))),.d (.v (.int .i64 0))]:=fun h=>by
   have e:fkI L T=0:=by unfold fkI;rw[if_neg (fun h=>h hl),h];rfl
   rw[←hR,e];rfl
  clear hR;rw[enE_zero]at hR1;refine Fn.of Tryz.func197 rfl (by kernel_rfl) Tryz.ntmps197 Tryz.results197 rfl fun w0 S0=>?_;refine wa ?_;refine AC.fgBox 7 rfl ?_;refine AC.loop (X:=Nat) (fun i=>⟨[(1,.d (.l (T.map enR))),(4,.p 4 0),(7,.p 7 0),(8,.d (.v (.bool (stQ L T i)))),(18,.d (.l (L.map enA))),(19,.d (.v (.int .i64 (L.length:Int)))),(20,.d (.v (.int .i64 (i:Int))))],[(4,.box 106 [.d .n,.d (.v (.bool false)),.d .n,.d .n]),(7,.box 106 ((enE (sumN L T i)).map .d))]⟩) (fun i=>i≤L.length∧bdQ L T i=false) (fun i=>L.length-i) 0 ⟨Nat.zero_le _,rfl⟩ ⟨rfl,rfl,rfl,rfl,rfl,rfl,rfl,trivial⟩ ⟨rfl,by show _=some (AO.box _ ((enE ⟨[],0⟩).map .d));rw[enE_zero];rfl,trivial⟩ ?_;intro i ⟨hi,hf⟩;dsimp only at hi hf ⊢;by_cases h1:i<L.length
  ·have ga:=List.getElem?_eq_getElem h1;have gt:=List.getElem?_eq_getElem (show i<T.length by omega);have hs:=bdQ_s h1 (show i<T.length by omega);rw[hf,Bool.false_or]at hs;have hss:=stQ_s h1 (show i<T.length by omega);have hup:=fun h=>bdQ_up (L:=L) (T:=T) (i:=i+1) h L.length (by omega);have ha:=h.a _ (List.getElem_mem h1);have ht:=h.t _ (List.getElem_mem (show i<T.length by omega));have htb:=scl_tb h (List.getElem_mem h1) (List.getElem_mem (show i<T.length by omega));have hsb:=sumN_tb h i;have hsc:=coQ_bd h hl i hi;rw[←sumN_c]at hsc;have hse:=sumN_s h1 (show i<T.length by omega);generalize L[i]=a at ga hs hss ha htb hse;generalize T[i]'(show i<T.length by omega)=t at gt hs hss ht htb hse;have q1:=ratSign t;have q0:=checkA a ha.op;have hbt:=bz_le ht;have hac:=ha.c;have q2:=scaleTF t a.e (by omega) (fun u hu=>by have:=tb_mem hu;have:=ha.tb;omega) (by omega);have hct:=canL_tb (a.e.t.map (mulT t));have hcm:=bz_mul t a.e.c;have hsc2:=bz_le hsc;have q3:=addTF (sumN L T i) (scaleE t a.e) (by show _+tb (canL _)+2≤_;omega) (by show _+bz (t*a.e.c)≤_;omega);rw[←hse]at q3;obtain⟨ho1,ho2⟩:=ha.op;obtain⟨st',hst'⟩:∃ x,stQ L T (i+1)=x:=⟨_,rfl⟩
   obtain⟨z,hz⟩:∃ x,sumN L T (i+1)=x:=⟨_,rfl⟩
   rw[hz]at q3;rw[hst']at hss;generalize stQ L T i=st at hss;generalize sumN L T i=S at q3;generalize scaleE t a.e=Y at q2 q3;clear h hac hbt hct hcm hsc2 hsc hsb hse htb ht ha;have hcase:(a.op≠3∧sgnR t<0)∨(¬(a.op≠3∧sgnR t<0)∧(a.op=1∨a.op=3∨(a.op=2∧0<sgnR t)∨(a.op=2∧sgnR t=0))):=by omega
   rcases hcase with h2 | ⟨h2,h3⟩
   ·rw[decide_eq_true h2]at hs;obtain rfl:=hR1 (hup hs);obtain⟨h2a,h2b⟩:=h2;generalize sgnR t=s at q1 h2b;clear hss q2 q3 hR0 hR1;refine wa ?_;exact⟨.cn rfl rfl inferInstance rfl ⟨.inr rfl,.inl rfl,.inr rfl,.inr rfl,trivial⟩,.d rfl (.inl rfl),.d rfl (.inl rfl),trivial⟩
   ·rw[decide_eq_false h2]at hs;generalize sgnR t=s at q1 h2 h3 hss;clear hR0 hR1 hup;rcases h3 with h3 | h3 | ⟨h3,h4⟩ | ⟨h3,h4⟩
    ·rw[decide_eq_false (by omega)]at hss;cases st<;>subst hss<;>(refine wa ?_;exact⟨i+1,⟨h1,hs⟩,by omega,⟨rfl,rfl,rfl,by dsimp only;rw[hst'];rfl,rfl,rfl,rfl,trivial⟩,⟨rfl,by dsimp only;rw[hz];rfl,trivial⟩⟩)
    ·rw[decide_eq_false (by omega)]at hss;cases st<;>subst hss<;>(refine wa ?_;exact⟨i+1,⟨h1,hs⟩,by omega,⟨rfl,rfl,rfl,by dsimp only;rw[hst'];rfl,rfl,rfl,rfl,trivial⟩,⟨rfl,by dsimp only;rw[hz];rfl,trivial⟩⟩)
    ·rw[decide_eq_true ⟨h3,h4⟩]at hss;cases st<;>subst hss<;>(refine wa ?_;exact⟨i+1,⟨h1,hs⟩,by omega,⟨rfl,rfl,rfl,by dsimp only;rw[hst'];rfl,rfl,rfl,rfl,trivial⟩,⟨rfl,by dsimp only;rw[hz];rfl,trivial⟩⟩)
    ·rw[decide_eq_false (by omega)]at hss;cases st<;>subst hss<;>(refine wa ?_;exact⟨i+1,⟨h1,hs⟩,by omega,⟨rfl,rfl,rfl,by dsimp only;rw[hst'];rfl,rfl,rfl,rfl,trivial⟩,⟨rfl,by dsimp only;rw[hz];rfl,trivial⟩⟩)
  ·have e:i=L.length:=by omega
   subst e;obtain rfl:=hR0 hf;refine wa ?_;exact⟨.cn rfl rfl inferInstance rfl ⟨.inl rfl,.inl rfl,.inl rfl,.inl rfl,trivial⟩,.d rfl (.inl rfl),.d rfl (.inl rfl),trivial⟩
 ·have e:fkI L T=1:=by unfold fkI;rw[if_pos hl]
  rw[e,if_neg (by decide),enE_zero]at hR;subst hR;refine Fn.of Tryz.func197 rfl (by kernel_rfl) Tryz.ntmps197 Tryz.results197 rfl fun w0 S0=>?_;refine wa ?_;exact⟨.cn rfl rfl inferInstance rfl ⟨.inr rfl,.inl rfl,.inr rfl,.inr rfl,trivial⟩,.d rfl (.inl rfl),.d rfl (.inl rfl),trivial⟩
theorem farkasRefutes(L:List At)(T:List Rat)(h:FkL L T)(r:Bool)(hr:r=true↔fkI L T=0∧rfuQ L T):Fn Tryz.prog 121 [.d (.l (L.map enA)),.d (.l (T.map enR))] [.d (.v (.bool r)),.d (.v (.int .i64 (fkI L T)))]:=by
 have q:=farkasSum L T h;unfold skR at q;by_cases he:fkI L T=0
 ·rw[if_pos he]at q;rw[he];have hr2:r=true↔(sumN L T L.length).t=[]∧(0<sgnR (sumN L T L.length).c∨sgnR (sumN L T L.length).c=0∧stQ L T L.length=true):=by
   rw[hr,sumN_nil,sumN_c];exact⟨fun h=>h.2,fun h=>⟨he,h⟩⟩
  generalize sumN L T L.length=e at q hr2;generalize stQ L T L.length=s at q hr2;clear h hr he;have q1:=ratSign e.c;generalize sgnR e.c=g at q1 hr2;have hll:(e.t.map enT).length=e.t.length:=List.length_map ..;have hno:¬ (e.t=[]∧(0<g∨g=0∧s=true))→r=false:=fun h=>by
   cases r with
   | false=>rfl
   | true=>exact absurd (hr2.1 rfl) h
  by_cases h1:e.t=[]
  ·have hz:e.t.length=0:=by rw[h1];rfl
   by_cases h2:0<g
   ·obtain rfl:=hr2.2 ⟨h1,.inl h2⟩;clear hr2 hno;refine Fn.of Tryz.func121 rfl (by kernel_rfl) Tryz.ntmps121 Tryz.results121 rfl fun w0 S0=>?_;refine wa ?_;exact⟨.d rfl (.inl rfl),.d rfl (.inl rfl),trivial⟩
   ·by_cases h3:g=0
    ·have es:r=s:=by
      cases s with
      | true=>exact hr2.2 ⟨h1,.inr ⟨h3,rfl⟩⟩
      | false=>exact hno fun h=>by rcases h.2 with h | h;exact absurd h h2;exact absurd h.2 (by decide)
     subst es;clear hr2 hno;refine Fn.of Tryz.func121 rfl (by kernel_rfl) Tryz.ntmps121 Tryz.results121 rfl fun w0 S0=>?_;refine wa ?_;exact⟨.d rfl (.inl rfl),.d rfl (.inl rfl),trivial⟩
    ·obtain rfl:=hno fun h=>by rcases h.2 with h | h;exact absurd h h2;exact absurd h.1 h3
     clear hr2 hno;refine Fn.of Tryz.func121 rfl (by kernel_rfl) Tryz.ntmps121 Tryz.results121 rfl fun w0 S0=>?_;refine wa ?_;exact⟨.d rfl (.inl rfl),.d rfl (.inl rfl),trivial⟩
  ·obtain rfl:=hno fun h=>h1 h.1;have hp:0<e.t.length:=List.length_pos_iff.2 h1;clear hr2 hno;refine Fn.of Tryz.func121 rfl (by kernel_rfl) Tryz.ntmps121 Tryz.results121 rfl fun w0 S0=>?_;refine wa ?_;exact⟨.d rfl (.inl rfl),.d rfl (.inl rfl),trivial⟩
 ·rw[if_neg he]at q;have e:r=false:=by
   cases r with
   | false=>rfl
   | true=>exact absurd (hr.1 rfl).1 he
  subst e;generalize fkI L T=e at q he;refine Fn.of Tryz.func121 rfl (by kernel_rfl) Tryz.ntmps121 Tryz.results121 rfl fun w0 S0=>?_;refine wa ?_;exact⟨.d rfl (.inl rfl),.d rfl (.inl rfl),trivial⟩
end Go.Proofs.YtbbpecfapohlaaaGreatDoor
