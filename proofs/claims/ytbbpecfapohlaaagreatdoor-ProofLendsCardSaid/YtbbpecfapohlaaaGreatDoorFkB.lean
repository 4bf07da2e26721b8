import Derived.Test.YtbbpecfapohlaaaGreatDoorOpA
set_option maxRecDepth 100000
set_option maxHeartbeats 8000000
namespace Go.Proofs.YtbbpecfapohlaaaGreatDoor
open Go.RowKit
attribute [local irreducible] AC Do St
theorem tb_inF(t:Tm):∀ l:List Tm,tb (insC t l)≤tb l+bz t.2+1
 | []=>by
   unfold insC;split
   ·simp[tb]
   ·simp only[tb];omega
 | u::l=>by
   have ih:=tb_inF t l;have hp:=bz_pos t.2;have ha:=bz_add t.2 u.2;unfold insC;split
   ·split
    ·simp only[tb];omega
    ·simp only[tb];omega
   ·split
    ·split
     ·simp only[tb];omega
     ·simp only[tb];omega
    ·simp only[tb];omega
theorem can_tb:∀ l:List Tm,∃o,Form o∧(∀v,coef o v=coef l v)∧tb o≤tb l
 | []=>⟨[],⟨.nil,by simp⟩,fun _=>rfl,Nat.le_refl _⟩
 | t::l=>by
   obtain⟨o,h1,h2,h3⟩:=can_tb l;obtain⟨q1,q2⟩:=insC_form (t:=t) h1;have h4:=tb_inF t o;exact⟨insC t o,q1,fun v=>by rw[q2,coef,coef,h2],by simp only[tb];omega⟩
theorem canL_tb(l:List Tm):tb (canL l)≤tb l:=by
 obtain⟨o,h1,h2,h3⟩:=can_tb l;rw[canL_eq h1 h2];exact h3
theorem tb_mul(r:Rat)(l:List Tm):tb (l.map (mulT r))≤tb l+l.length*bz r:=by
 induction l with
 | nil=>simp[tb]
 | cons t l ih=>
   have:=bz_mul r t.2;simp only[List.map_cons,tb,List.length_cons,Nat.succ_mul];show bz (r*t.2)+1+_≤_;omega
structure FkA(a:At):Prop where
 tb:tb a.e.t≤100000
 n:a.e.t.length≤12
 c:bz a.e.c≤10000
 op:okOp a.op
structure FkL(L:List At)(T:List Rat):Prop where
 a:∀ a∈L,FkA a
 t:∀ t∈T,Bd 256 t
 n:L.length≤64
noncomputable def atQ (L:List At)(T:List Rat)(v:Int):Nat→Rat
 | 0=>0
 | i+1=>match L[i]?,T[i]? with
   | some a,some t=>atQ L T v i+t*coef a.e.t v
   | _,_=>atQ L T v i
noncomputable def coQ (L:List At)(T:List Rat):Nat→Rat
 | 0=>0
 | i+1=>match L[i]?,T[i]? with
   | some a,some t=>coQ L T i+t*a.e.c
   | _,_=>coQ L T i
theorem atQ_s{L:List At}{T:List Rat}(v:Int){i:Nat}(h1:i<L.length)(h2:i<T.length):atQ L T v (i+1)=atQ L T v i+T[i]*coef L[i].e.t v:=by
 rw[atQ,List.getElem?_eq_getElem h1,List.getElem?_eq_getElem h2]
theorem coQ_s{L:List At}{T:List Rat}{i:Nat}(h1:i<L.length)(h2:i<T.length):coQ L T (i+1)=coQ L T i+T[i]*L[i].e.c:=by
 rw[coQ,List.getElem?_eq_getElem h1,List.getElem?_eq_getElem h2]
theorem FkL.coef{L:List At}{T:List Rat}(h:FkL L T){a:At}(ha:a∈L)(v:Int):Bd 100001 (coef a.e.t v):=(coef_tb a.e.t v).mono (by have:=(h.a a ha).tb;omega)
theorem FkL.con{L:List At}{T:List Rat}(h:FkL L T){a:At}(ha:a∈L):Bd 10000 a.e.c:=bz_bd (h.a a ha).c
theorem bd_zero{k:Nat}(h:1≤k):Bd k (0:Rat):=bz_bd (Nat.le_trans (by decide+kernel) h)
theorem atQ_bd{L:List At}{T:List Rat}(h:FkL L T)(hl:L.length=T.length)(v:Int):∀ i,i≤L.length→Bd (i*100300+1) (atQ L T v i)
 | 0,_=>bd_zero (by omega)
 | i+1,hi=>by
   rw[atQ_s v (i:=i) (by omega) (by omega)];have h1:=h.t _ (List.getElem_mem (show i<T.length by omega));have h2:=h.coef (List.getElem_mem (show i<L.length by omega)) v;exact((atQ_bd h hl v i (by omega)).add (h1.mul h2)).mono (by omega)
theorem coQ_bd{L:List At}{T:List Rat}(h:FkL L T)(hl:L.length=T.length):∀ i,i≤L.length→Bd (i*10300+1) (coQ L T i)
 | 0,_=>bd_zero (by omega)
 | i+1,hi=>by
   rw[coQ_s (i:=i) (by omega) (by omega)];have h1:=h.t _ (List.getElem_mem (show i<T.length by omega));have h2:=h.con (List.getElem_mem (show i<L.length by omega));exact((coQ_bd h hl i (by omega)).add (h1.mul h2)).mono (by omega)
theorem at20(L:List At)(T:List Rat)(v:Int)(h:FkL L T)(hl:L.length=T.length):Fn Tryz.prog 204 [.d (.l (L.map enAQ)),.d (.l (T.map enQ)),.d (.v (.int .i64 v))] [.g (enQ (atQ L T v L.length))]:=by
 have hL:(L.map enAQ).length=L.length:=List.length_map ..;have q0:=qInt 0 (by omega) (by omega);have hz:((0:Int):Rat)=0:=rfl;rw[hz]at q0;refine Fn.of Tryz.func204 rfl (by kernel_rfl) Tryz.ntmps204 Tryz.results204 rfl fun w0 S0=>?_;refine wa ?_;refine AC.loop (X:=Nat) (fun i=>⟨[(1,.d (.l (T.map enQ))),(2,.d (.v (.int .i64 v))),(6,.p 6 0),(7,.p 7 0),(11,.d (.l (L.map enAQ))),(12,.d (.v (.int .i64 (L.length:Int)))),(13,.d (.v (.int .i64 (i:Int))))],[(6,.box 136 [.d (.v (.bool false)),.d .n,.d .n]),(7,.box 136 ((enQ (atQ L T v i)).map .d))]⟩) (fun i=>i≤L.length) (fun i=>L.length-i) 0 (Nat.zero_le _) ⟨rfl,rfl,rfl,rfl,rfl,rfl,rfl,trivial⟩ ⟨rfl,rfl,trivial⟩ ?_;intro i hi;dsimp only at hi ⊢;clear q0;by_cases h1:i<L.length
 ·have ga:=List.getElem?_eq_getElem h1;have gt:=List.getElem?_eq_getElem (show i<T.length by omega);have hs:=atQ_s v h1 (show i<T.length by omega);have hb:=atQ_bd h hl v i hi;have ha:=h.a _ (List.getElem_mem h1);have hc:=h.coef (List.getElem_mem h1) v;have ht:=h.t _ (List.getElem_mem (show i<T.length by omega));have hn:=h.n;generalize L[i]=a at ga hs ha hc;generalize T[i]=t at gt hs ht;have q1:=coefTQ a.e v (by have:=ha.tb;omega);have q2:=qMul ht hc (by omega);have q3:=qAdd hb (ht.mul hc) (by omega);rw[←hs]at q3;generalize atQ L T v i=x at q3 hb;obtain⟨y,hy⟩:∃ y,atQ L T v (i+1)=y:=⟨_,rfl⟩
  rw[hy]at q3;clear hs ha h hb;refine wa ?_;exact⟨i+1,h1,by omega,⟨rfl,rfl,rfl,rfl,rfl,rfl,rfl,trivial⟩,⟨rfl,by dsimp only;rw[hy];rfl,trivial⟩⟩
 ·have e:i=L.length:=by omega
  subst e;refine wa ?_;exact⟨.cn rfl rfl inferInstance rfl ⟨.inl rfl,.inl rfl,.inl rfl,trivial⟩,trivial⟩
theorem const20(L:List At)(T:List Rat)(h:FkL L T)(hl:L.length=T.length):Fn Tryz.prog 205 [.d (.l (L.map enAQ)),.d (.l (T.map enQ))] [.g (enQ (coQ L T L.length))]:=by
 have hL:(L.map enAQ).length=L.length:=List.length_map ..;have q0:=qInt 0 (by omega) (by omega);have hz:((0:Int):Rat)=0:=rfl;rw[hz]at q0;refine Fn.of Tryz.func205 rfl (by kernel_rfl) Tryz.ntmps205 Tryz.results205 rfl fun w0 S0=>?_;refine wa ?_;refine AC.loop (X:=Nat) (fun i=>⟨[(1,.d (.l (T.map enQ))),(4,.p 4 0),(5,.p 5 0),(9,.d (.l (L.map enAQ))),(10,.d (.v (.int .i64 (L.length:Int)))),(11,.d (.v (.int .i64 (i:Int))))],[(4,.box 136 [.d (.v (.bool false)),.d .n,.d .n]),(5,.box 136 ((enQ (coQ L T i)).map .d))]⟩) (fun i=>i≤L.length) (fun i=>L.length-i) 0 (Nat.zero_le _) ⟨rfl,rfl,rfl,rfl,rfl,rfl,trivial⟩ ⟨rfl,rfl,trivial⟩ ?_;intro i hi;dsimp only at hi ⊢;clear q0;by_cases h1:i<L.length
 ·have ga:=List.getElem?_eq_getElem h1;have gt:=List.getElem?_eq_getElem (show i<T.length by omega);have hs:=coQ_s h1 (show i<T.length by omega);have hb:=coQ_bd h hl i hi;have hc:=h.con (List.getElem_mem h1);have ht:=h.t _ (List.getElem_mem (show i<T.length by omega));have hn:=h.n;generalize L[i]=a at ga hs hc;generalize T[i]=t at gt hs ht;have q2:=qMul ht hc (by omega);have q3:=qAdd hb (ht.mul hc) (by omega);rw[←hs]at q3;generalize coQ L T i=x at q3 hb;obtain⟨y,hy⟩:∃ y,coQ L T (i+1)=y:=⟨_,rfl⟩
  rw[hy]at q3;clear hs h hb;refine wa ?_;exact⟨i+1,h1,by omega,⟨rfl,rfl,rfl,rfl,rfl,rfl,trivial⟩,⟨rfl,by dsimp only;rw[hy];rfl,trivial⟩⟩
 ·have e:i=L.length:=by omega
  subst e;refine wa ?_;exact⟨.cn rfl rfl inferInstance rfl ⟨.inl rfl,.inl rfl,.inl rfl,trivial⟩,trivial⟩
end Go.Proofs.YtbbpecfapohlaaaGreatDoor
namespace Go.Proofs.YtbbpecfapohlaaaGreatDoor
open Go.RowKit
attribute [local irreducible] AC Do St
noncomputable def stQ (L:List At)(T:List Rat):Nat→Bool
 | 0=>false
 | i+1=>match L[i]?,T[i]? with
   | some a,some t=>stQ L T i||decide (a.op=2∧0<sgnR t)
   | _,_=>stQ L T i
noncomputable def bdQ (L:List At)(T:List Rat):Nat→Bool
 | 0=>false
 | i+1=>match L[i]?,T[i]? with
   | some a,some t=>bdQ L T i||decide (a.op≠3∧sgnR t<0)
   | _,_=>bdQ L T i
theorem stQ_s{L:List At}{T:List Rat}{i:Nat}(h1:i<L.length)(h2:i<T.length):stQ L T (i+1)=(stQ L T i||decide (L[i].op=2∧0<sgnR T[i])):=by
 rw[stQ,List.getElem?_eq_getElem h1,List.getElem?_eq_getElem h2]
theorem bdQ_s{L:List At}{T:List Rat}{i:Nat}(h1:i<L.length)(h2:i<T.length):bdQ L T (i+1)=(bdQ L T i||decide (L[i].op≠3∧sgnR T[i]<0)):=by
 rw[bdQ,List.getElem?_eq_getElem h1,List.getElem?_eq_getElem h2]
theorem stQ_up{L:List At}{T:List Rat}{i:Nat}(h:stQ L T i=true):∀ n,i≤n→stQ L T n=true
 | 0,hn=>by rw[show i=0 by omega]at h;exact h
 | n+1,hn=>by
   by_cases e:i=n+1
   ·rw[←e];exact h
   ·have:=stQ_up h n (by omega);rw[stQ];split
    ·rw[this];rfl
    ·exact this
theorem bdQ_up{L:List At}{T:List Rat}{i:Nat}(h:bdQ L T i=true):∀ n,i≤n→bdQ L T n=true
 | 0,hn=>by rw[show i=0 by omega]at h;exact h
 | n+1,hn=>by
   by_cases e:i=n+1
   ·rw[←e];exact h
   ·have:=bdQ_up h n (by omega);rw[bdQ];split
    ·rw[this];rfl
    ·exact this
theorem strict20(L:List At)(T:List Rat)(h:FkL L T)(hl:L.length=T.length):Fn Tryz.prog 206 [.d (.l (L.map enAQ)),.d (.l (T.map enQ))] [.d (.v (.bool (stQ L T L.length)))]:=by
 have hL:(L.map enAQ).length=L.length:=List.length_map ..;have hn:=h.n;obtain⟨R,hR⟩:∃ R,stQ L T L.length=R:=⟨_,rfl⟩
 rw[hR];refine Fn.of Tryz.func206 rfl (by kernel_rfl) Tryz.ntmps206 Tryz.results206 rfl fun w0 S0=>?_;refine wa ?_;refine AC.loop (X:=Nat) (fun i=>⟨[(1,.d (.l (T.map enQ))),(7,.d (.l (L.map enAQ))),(8,.d (.v (.int .i64 (L.length:Int)))),(9,.d (.v (.int .i64 (i:Int))))],[]⟩) (fun i=>i≤L.length∧stQ L T i=false) (fun i=>L.length-i) 0 ⟨Nat.zero_le _,rfl⟩ ⟨rfl,rfl,rfl,rfl,trivial⟩ trivial ?_;intro i ⟨hi,hf⟩;dsimp only at hi hf ⊢;by_cases h1:i<L.length
 ·have ga:=List.getElem?_eq_getElem h1;have gt:=List.getElem?_eq_getElem (show i<T.length by omega);have hs:=stQ_s h1 (show i<T.length by omega);rw[hf,Bool.false_or]at hs;have hup:=fun h=>stQ_up (L:=L) (T:=T) (i:=i+1) h L.length (by omega);rw[hR]at hup;generalize L[i]=a at ga hs;generalize T[i]=t at gt hs;have q1:=qSign t;clear h hR;by_cases h2:a.op=2
  ·generalize sgnR t=s at q1 hs;by_cases h3:0<s
   ·rw[decide_eq_true ⟨h2,h3⟩]at hs;obtain rfl:=hup hs;refine wa ?_;exact⟨.d rfl (.inl rfl),trivial⟩
   ·rw[decide_eq_false fun h=>h3 h.2]at hs;refine wa ?_;exact⟨i+1,⟨h1,hs⟩,by omega,⟨rfl,rfl,rfl,rfl,trivial⟩,trivial⟩
  ·rw[decide_eq_false fun h=>h2 h.1]at hs;refine wa ?_;exact⟨i+1,⟨h1,hs⟩,by omega,⟨rfl,rfl,rfl,rfl,trivial⟩,trivial⟩
 ·have e:i=L.length:=by omega
  subst e;rw[hR]at hf;subst hf;refine wa ?_;exact⟨.d rfl (.inl rfl),trivial⟩
noncomputable def fkI (L:List At)(T:List Rat):Int:=if L.length≠T.length then 1 else if bdQ L T L.length=true then 4 else 0
theorem check20(L:List At)(T:List Rat)(h:FkL L T):Fn Tryz.prog 126 [.d (.l (L.map enAQ)),.d (.l (T.map enQ))] [.d (.v (.int .i64 (fkI L T)))]:=by
 have hL:(L.map enAQ).length=L.length:=List.length_map ..;have hT2:(T.map enQ).length=T.length:=List.length_map ..;have hn:=h.n;obtain⟨R,hR⟩:∃ R,fkI L T=R:=⟨_,rfl⟩
 rw[hR];unfold fkI at hR;by_cases hl:L.length=T.length
 ·rw[if_neg (fun h=>h hl)]at hR;have hR1:bdQ L T L.length=true→R=4:=fun h=>by rw[←hR,if_pos h]
  have hR0:bdQ L T L.length=false→R=0:=fun h=>by rw[←hR,h];rfl
  clear hR;refine Fn.of Tryz.func126 rfl (by kernel_rfl) Tryz.ntmps126 Tryz.results126 rfl fun w0 S0=>?_;refine wa ?_;refine AC.loop (X:=Nat) (fun i=>⟨[(1,.d (.l (T.map enQ))),(12,.d (.l (L.map enAQ))),(13,.d (.v (.int .i64 (L.length:Int)))),(14,.d (.v (.int .i64 (i:Int))))],[]⟩) (fun i=>i≤L.length∧bdQ L T i=false) (fun i=>L.length-i) 0 ⟨Nat.zero_le _,rfl⟩ ⟨rfl,rfl,rfl,rfl,trivial⟩ trivial ?_;intro i ⟨hi,hf⟩;dsimp only at hi hf ⊢;by_cases h1:i<L.length
  ·have ga:=List.getElem?_eq_getElem h1;have gt:=List.getElem?_eq_getElem (show i<T.length by omega);have hs:=bdQ_s h1 (show i<T.length by omega);rw[hf,Bool.false_or]at hs;have hup:=fun h=>bdQ_up (L:=L) (T:=T) (i:=i+1) h L.length (by omega);have ho:=(h.a _ (List.getElem_mem h1)).op;obtain⟨ho1,ho2⟩:=ho;generalize L[i]=a at ga hs ho1 ho2;generalize T[i]=t at gt hs;have q1:=qSign t;clear h;by_cases h2:a.op=3
   ·rw[decide_eq_false fun h=>h.1 h2]at hs;refine wa ?_;exact⟨i+1,⟨h1,hs⟩,by omega,⟨rfl,rfl,rfl,rfl,trivial⟩,trivial⟩
   ·generalize sgnR t=s at q1 hs;by_cases h3:s<0
    ·rw[decide_eq_true ⟨h2,h3⟩]at hs;obtain rfl:=hR1 (hup hs);refine wa ?_;exact⟨.d rfl (.inl rfl),trivial⟩
    ·rw[decide_eq_false fun h=>h3 h.2]at hs;refine wa ?_;exact⟨i+1,⟨h1,hs⟩,by omega,⟨rfl,rfl,rfl,rfl,trivial⟩,trivial⟩
  ·have e:i=L.length:=by omega
   subst e;obtain rfl:=hR0 hf;refine wa ?_;exact⟨.d rfl (.inl rfl),trivial⟩
 ·rw[if_pos hl]at hR;subst hR;refine Fn.of Tryz.func126 rfl (by kernel_rfl) Tryz.ntmps126 Tryz.results126 rfl fun w0 S0=>?_;refine wa ?_;exact⟨.d rfl (.inl rfl),trivial⟩
theorem vars20(L:List At)(T:List Rat)(h:FkL L T):Fn Tryz.prog 203 [.d (.l (L.map enAQ))] [.d (enI (varsE (L.map (·.e))))]:=by
 have hL:(L.map enAQ).length=L.length:=List.length_map ..;have hn:=h.n;have q:=varsQ (L.map (·.e)) (by rw[List.length_map];omega) (fun e he=>by
  obtain⟨a,ha,rfl⟩:=List.mem_map.1 he;have:=(h.a a ha).n;omega)
 obtain⟨V,hV⟩:∃ V,varsE (L.map (·.e))=V:=⟨_,rfl⟩
 rw[hV]at q ⊢;refine Fn.of Tryz.func203 rfl (by kernel_rfl) Tryz.ntmps203 Tryz.results203 rfl fun w0 S0=>?_;refine wn ?_;refine AC.loop (X:=Nat) (fun i=>⟨[(3,.r 6 i),(7,.d (.l (L.map enAQ))),(8,.d (.v (.int .i64 (L.length:Int)))),(9,.d (.v (.int .i64 (i:Int))))],[(6,.row i 140 4 ((L.take i).map fun a=>enEQ a.e))]⟩) (fun i=>i≤L.length) (fun i=>L.length-i) 0 (Nat.zero_le _) ⟨rfl,rfl,rfl,rfl,trivial⟩ ⟨rfl,trivial⟩ ?_;intro i hi;dsimp only at hi ⊢;by_cases h1:i<L.length
 ·have ga:=List.getElem?_eq_getElem h1;have hts:(L.take (i+1)).map (fun a=>enEQ a.e)=(L.take i).map (fun a=>enEQ a.e)++[enEQ L[i].e]:=by
   rw[List.take_succ_eq_append_getElem h1,List.map_append];rfl
  generalize L[i]=a at ga hts;clear q h hV;refine wa ?_;exact⟨i+1,h1,by omega,⟨rfl,rfl,rfl,rfl,trivial⟩,⟨by dsimp only;rw[hts];rfl,trivial⟩⟩
 ·have e:i=L.length:=by omega
  have ht:(L.take i).map (fun a=>enEQ a.e)=(L.map (·.e)).map enEQ:=by rw[List.take_of_length_le (by omega),List.map_map];rfl
  rw[ht];subst e;clear hV;refine AC.frzVar 3 rfl rfl ?_;refine wa ?_;exact⟨.d rfl (.inl rfl),trivial⟩
def rfuQ(L:List At)(T:List Rat):Prop:=(∀v,atQ L T v L.length=0)∧(0<sgnR (coQ L T L.length)∨sgnR (coQ L T L.length)=0∧stQ L T L.length=true)
theorem atQ_out{L:List At}{T:List Rat}{v:Int}(h:v∉varsE (L.map (·.e))):∀ i,atQ L T v i=0
 | 0=>rfl
 | i+1=>by
   have ih:=atQ_out (T:=T) h i;rw[atQ];split
   ·rename_i a t ha ht;have hz:coef a.e.t v=0:=by
     refine Classical.byContradiction fun hc=>h ?_;obtain⟨t,h1,h2⟩:=coef_ne_mem hc;exact((varsE_spec _).2.1 v).2 ⟨a.e,List.mem_map.2 ⟨a,List.mem_of_getElem? ha,rfl⟩,t,h1,h2⟩
    rw[ih,hz,Rat.mul_zero,Rat.add_zero]
   ·exact ih
theorem refutes20(L:List At)(T:List Rat)(h:FkL L T)(hl:L.length=T.length)(r:Bool)(hr:r=true↔rfuQ L T):Fn Tryz.prog 127 [.d (.l (L.map enAQ)),.d (.l (T.map enQ))] [.d (.v (.bool r))]:=by
 have qv:=vars20 L T h;have qc:=const20 L T h hl;have qs:=strict20 L T h hl;have hout:=fun v hv=>atQ_out (L:=L) (T:=T) (v:=v) hv L.length;have hlen:(varsE (L.map (·.e))).length≤1000:=by
  have h1:=(varsE_spec (L.map (·.e))).2.2;have h2:∀ l:List At,(∀a∈l,FkA a)→tot (l.map (·.e))≤12*l.length:=fun l=>by
   induction l with
   | nil=>intro _;exact Nat.zero_le _
   | cons a l ih=>
     intro hl;have:=ih fun x hx=>hl x (List.mem_cons_of_mem _ hx);have h3:=(hl a (by simp)).n;unfold tot at this ⊢;simp only[List.map_cons,List.sum_cons,List.length_cons];omega
  have:=h2 L h.a;have:=h.n;omega
 unfold rfuQ at hr;generalize varsE (L.map (·.e))=V at qv hout hlen;have hVl:(V.map fun v=>[D.v (.int .i64 v)]).length=V.length:=List.length_map ..;have hqa:=fun v=>at20 L T v h hl;generalize coQ L T L.length=c at qc hr;generalize stQ L T L.length=s at qs hr;have qg:=qSign c;generalize sgnR c=g at qg hr;have hf:(∃v,atQ L T v L.length≠0)→r=false:=fun⟨v,hv⟩=>by
  cases r with
  | true=>exact absurd ((hr.1 rfl).1 v) hv
  | false=>rfl
 refine Fn.of Tryz.func127 rfl (by kernel_rfl) Tryz.ntmps127 Tryz.results127 rfl fun w0 S0=>?_;refine wa ?_;refine AC.loop (X:=Nat) (fun i=>⟨[(0,.d (.l (L.map enAQ))),(1,.d (.l (T.map enQ))),(9,.d (enI V)),(10,.d (.v (.int .i64 (V.length:Int)))),(11,.d (.v (.int .i64 (i:Int))))],[]⟩) (fun i=>i≤V.length∧∀ v∈V.take i,atQ L T v L.length=0) (fun i=>V.length-i) 0 ⟨Nat.zero_le _,by simp⟩ ⟨rfl,rfl,rfl,rfl,rfl,trivial⟩ trivial ?_;intro i ⟨hi,hz⟩;dsimp only at hi hz ⊢;clear qv;by_cases h1:i<V.length
 ·have gv:=List.getElem?_eq_getElem h1;have hts:=List.take_succ_eq_append_getElem h1;have qa:=hqa V[i];have hfv:atQ L T V[i] L.length≠0→r=false:=fun h=>hf ⟨_,h⟩;have hz1:atQ L T V[i] L.length=0→∀ v∈V.take (i+1),atQ L T v L.length=0:=fun h v hv=>by
   rw[hts]at hv;rcases List.mem_append.1 hv with h2 | h2
   ·exact hz v h2
   ·rw[List.mem_singleton.1 h2];exact h
  generalize V[i]=v at gv qa hfv hz1;clear hts hqa hout hz h qc qs qg hr hf;generalize atQ L T v L.length=x at qa hfv hz1;have q1:=qSign x;have hx0:sgnR x=0↔x=0:=sgnR_zero;generalize sgnR x=sg at q1 hx0;by_cases h2:sg=0
  ·have hn:=hz1 (hx0.1 h2);refine wa ?_;exact⟨i+1,⟨h1,hn⟩,by omega,⟨rfl,rfl,rfl,rfl,rfl,trivial⟩,trivial⟩
  ·obtain rfl:=hfv fun h=>h2 (hx0.2 h);refine wa ?_;exact⟨.d rfl (.inl rfl),trivial⟩
 ·have hall:∀ v,atQ L T v L.length=0:=fun v=>by
   by_cases hv:v∈V
   ·exact hz v (by rw[List.take_of_length_le (by omega)];exact hv)
   ·exact hout v hv
  have hr2:r=true↔(0<g∨g=0∧s=true):=hr.trans ⟨fun h=>h.2,fun h=>⟨hall,h⟩⟩;clear hr hall hz hout hqa hf h;by_cases h2:0<g
  ·obtain rfl:=hr2.2 (.inl h2);refine wa ?_;exact⟨.d rfl (.inl rfl),trivial⟩
  ·by_cases h3:g=0
   ·have e:r=s:=by
     cases s with
     | true=>exact hr2.2 (.inr ⟨h3,rfl⟩)
     | false=>
       cases r with
       | true=>rcases hr2.1 rfl with h | h
               ·exact absurd h h2
               ·exact h.2.symm
       | false=>rfl
    subst e;clear hr2;refine wa ?_;exact⟨.d rfl (.inl rfl),trivial⟩
   ·have e:r=false:=by
     cases r with
     | true=>rcases hr2.1 rfl with h | h
             ·exact absurd h h2
             ·exact absurd h.1 h3
     | false=>rfl
    subst e;clear hr2;refine wa ?_;exact⟨.d rfl (.inl rfl),trivial⟩
end Go.Proofs.YtbbpecfapohlaaaGreatDoor
