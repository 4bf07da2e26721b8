import Derived.Test.YtbbpecfapohlaaaGreatDoorLin
import Derived.Test.YtbbpecfapohlaaaGreatDoorRef8
import Derived.Test.YtbbpecfapohlaaaGreatDoorK3
set_option maxRecDepth 100000
set_option maxHeartbeats 4000000
namespace Go.Proofs.YtbbpecfapohlaaaGreatDoor
open Go.RowKit
theorem absR_num(q:Rat):(absR q).num.natAbs=q.num.natAbs∧(absR q).den=q.den∧decide ((absR q).num<0)=false:=by
 unfold absR;split
 ·rw[Rat.neg_num,Rat.neg_den,Int.natAbs_neg];exact⟨rfl,rfl,decide_eq_false (by omega)⟩
 ·exact⟨rfl,rfl,decide_eq_false (by omega)⟩
attribute [local irreducible] AC Do St
noncomputable def notL (a:At):List At:=if a.op=1 then [⟨scaleE (-1) a.e,2⟩]else if a.op=2 then [⟨scaleE (-1) a.e,1⟩]else [⟨⟨canL a.e.t,a.e.c⟩,2⟩,⟨scaleE (-1) a.e,2⟩]
theorem notF(a:At)(k:Nat)(ho:okOp a.op)(hc:Bd k a.e.c)(ht:∀ t∈a.e.t,Bd k t.2)(hk:(a.e.t.length+2)*(1+k+1)≤50000000):Fn Tryz.prog 196 [.g (enA a)] [.d (.l ((notL a).map enA)),.d (.v (.int .i64 0))]:=by
 have hm1:Bd 1 (-1:Rat):=⟨by decide,by decide⟩
 have hk2:(a.e.t.length+2)*(k+1)≤50000000:=Nat.le_trans (Nat.mul_le_mul_left _ (by omega)) hk;refine Fn.of Tryz.func196 rfl (by kernel_rfl) Tryz.ntmps196 Tryz.results196 rfl fun w0 S0=>?_;refine wk ?_;refine c1 (checkA a ho) ?_;refine wk ?_;refine c1 (ratInt (-1) (by omega) (by omega)) ?_;refine wk ?_;refine c1 (scaleF (-1) a.e 1 k hm1 ht hc hk) ?_;refine wk ?_;refine s1 (fun h1=>?_) (fun h1=>?_)
 ·have hn:notL a=[⟨scaleE (-1) a.e,2⟩]:=by unfold notL;rw[if_pos h1]
  refine wk ?_;rw[hn];exact⟨.d rfl (.inl rfl),.d rfl (.inl rfl),trivial⟩
 ·refine wk ?_;(first | intro K ms hms hK | intro K hK);refine s1 (fun h2=>?_) (fun h2=>?_)
  ·have hn:notL a=[⟨scaleE (-1) a.e,1⟩]:=by unfold notL;rw[if_neg h1,if_pos h2]
   refine wk ?_;rw[hn];exact⟨.d rfl (.inl rfl),.d rfl (.inl rfl),trivial⟩
  ·have hn:notL a=[⟨⟨canL a.e.t,a.e.c⟩,2⟩,⟨scaleE (-1) a.e,2⟩]:=by unfold notL;rw[if_neg h1,if_neg h2]
   refine wk ?_;refine c1 (canF a.e k ht hk2) ?_;refine wk ?_;rw[hn];exact⟨.d rfl (.inl rfl),.d rfl (.inl rfl),trivial⟩
end Go.Proofs.YtbbpecfapohlaaaGreatDoor
namespace Go.Proofs.YtbbpecfapohlaaaGreatDoor
open Go.RowKit
attribute [local irreducible] AC Do St
def zeroA:List D:=[.l [],.v (.bool false),.l [],.l [],.v (.int .i64 0)]
theorem canNo(a:At)(ho:¬ okOp a.op):Fn Tryz.prog 117 [.g (enA a)] [.g zeroA,.d (.v (.int .i64 0)),.d (.v (.int .i64 4))]:=by
 refine Fn.of Tryz.func117 rfl (by kernel_rfl) Tryz.ntmps117 Tryz.results117 rfl fun w0 S0=>?_;refine wk ?_;refine c1 (checkNo a ho) ?_;refine wk ?_;exact⟨.cn rfl rfl inferInstance rfl ⟨.inr rfl,.inl rfl,.inr rfl,.inr rfl,.inl rfl,trivial⟩,.d rfl (.inl rfl),.d rfl (.inl rfl),trivial⟩
end Go.Proofs.YtbbpecfapohlaaaGreatDoor
namespace Go.Proofs.YtbbpecfapohlaaaGreatDoor
open Go.RowKit
attribute [local irreducible] AC Do St
theorem absR_cases(c:Rat):absR c=c∨absR c= -c:=by
 unfold absR;split
 ·exact .inr rfl
 ·exact .inl rfl
theorem absR_nn(c:Rat):0≤absR c:=by
 unfold absR;split
 ·rename_i h;have:¬ 0≤c:=fun h2=>absurd (Rat.num_nonneg.2 h2) (by omega);grind
 ·rename_i h;exact Rat.num_nonneg.1 (by omega)
theorem absR_ne{c:Rat}(h:c≠0):absR c≠0:=by
 rcases absR_cases c with h1 | h1<;>rw[h1]<;>grind
theorem absR_eq{c:Rat}(h:0≤c):absR c=c:=by
 rcases absR_cases c with h1 | h1
 ·exact h1
 ·have:=absR_nn c;grind
theorem byQ_ne{op:Int}{c:Rat}(h:c≠0):byQ op c≠0:=by
 unfold byQ;split
 ·exact fun h2=>h (by have:=Rat.inv_inv c;rw[h2]at this;simpa using this.symm)
 ·exact fun h2=>absR_ne h (by have:=Rat.inv_inv (absR c);rw[h2]at this;simpa using this.symm)
theorem byQ_again{op:Int}{c:Rat}(h:c≠0):byQ op (byQ op c*c)=1:=by
 unfold byQ;by_cases ho:op=3
 ·rw[if_pos ho,if_pos ho,Rat.inv_mul_cancel _ h];exact Rat.inv_eq_of_mul_eq_one (by grind)
 ·rw[if_neg ho,if_neg ho];have h1:=absR_ne h;have h2:absR ((absR c)⁻¹ *c)=1:=by
   have hi:=Rat.inv_mul_cancel _ h1;rcases absR_cases c with h3 | h3
   ·rw[h3,Rat.inv_mul_cancel _ h];exact absR_eq (by decide)
   ·have:(absR c)⁻¹ *c= -1:=by
     have:c= - absR c:=by rw[h3];grind
     rw[this];grind
    rw[this];decide
  rw[h2];exact Rat.inv_eq_of_mul_eq_one (by grind)
theorem lead_can(e:Ex):(leadQ e=none∧canL e.t=[])∨∃ v c l,leadQ e=some (v,c)∧canL e.t=(v,c)::l:=by
 obtain⟨hf,hc,_⟩:=canL_spec e.t;cases hl:leadQ e with
 | none=>exact .inl ⟨rfl,canL_eq ⟨.nil,by simp⟩ fun v=>(leadQ_none hl v).symm⟩
 | some x=>
   obtain⟨v,c⟩:=x;obtain⟨h1,h2,h3⟩:=leadQ_ne hl;right;cases hcan:canL e.t with
   | nil=>
     have:=hc v;rw[hcan,coef]at this;exact absurd (h2.trans this.symm) h1
   | cons t l=>
     obtain⟨u,d⟩:=t;rw[hcan]at hf hc;have hd:d≠0:=hf.2 (u,d) (by simp);have hu:=hc u;rw[hf.head]at hu;rcases Int.lt_trichotomy u v with h4 | h4 | h4
     ·rw[h3 u h4]at hu;exact absurd hu hd
     ·subst h4;have:d=c:=by rw[h2];exact hu
      exact⟨u,c,l,rfl,by rw[this]⟩
     ·have:=hc v;rw[hf.below h4]at this;exact absurd (h2.trans this.symm) h1
theorem scale_form{r:Rat}(hr:r≠0){l:List Tm}(h:Form l):Form (l.map (mulT r)):=by
 refine⟨List.pairwise_map.2 h.1,fun t ht=>?_⟩;obtain⟨u,hu,rfl⟩:=List.mem_map.1 ht;have h1:=h.2 u hu;intro h2;have:r*u.2=0:=h2;rcases Rat.mul_eq_zero.1 this with h3 | h3
 ·exact hr h3
 ·exact h1 h3
theorem canL_form{l:List Tm}(h:Form l):canL l=l:=canL_eq h fun _=>rfl
noncomputable def canA (a:At)(c:Rat):At:=⟨scaleE (byQ a.op c) ⟨canL a.e.t,a.e.c⟩,a.op⟩
theorem canA_t(a:At){c:Rat}(hc:c≠0):(canA a c).e.t=(canL a.e.t).map (mulT (byQ a.op c)):=canL_form (scale_form (byQ_ne hc) (canL_spec a.e.t).1)
theorem canA_c(a:At)(c:Rat):(canA a c).e.c=byQ a.op c*a.e.c:=rfl
theorem canA_coef(a:At){c:Rat}(hc:c≠0)(v:Int):coef (canA a c).e.t v=byQ a.op c*coef a.e.t v:=by
 rw[canA_t a hc,←(canL_spec a.e.t).2.1];exact coef_map _ _ _
theorem canA_means(a:At){c:Rat}(hc:c≠0):Means (canA a c).e (byQ a.op c) a.e 0 ⟨[],0⟩:=by
 refine⟨?_,?_,fun v=>?_⟩
 ·rw[canA_t a hc];exact scale_form (byQ_ne hc) (canL_spec a.e.t).1
 ·rw[canA_c];simp only;grind
 ·rw[canA_coef a hc];simp only[coef];grind
theorem canA_again(a:At){v:Int}{c:Rat}{l:List Tm}(hc:c≠0)(h:canL a.e.t=(v,c)::l):(canA a c).e.t=(v,byQ a.op c*c)::l.map (mulT (byQ a.op c))∧canL (canA a c).e.t=(canA a c).e.t∧canA (canA a c) (byQ a.op c*c)=canA a c:=by
 have hf:Form (canA a c).e.t:=(canA_means a hc).1;have h1:(canA a c).e.t=(v,byQ a.op c*c)::l.map (mulT (byQ a.op c)):=by rw[canA_t a hc,h];rfl
 have h2:=canL_form hf;refine⟨h1,h2,?_⟩;have hop:(canA a c).op=a.op:=rfl;have e1:canA (canA a c) (byQ a.op c*c)=⟨scaleE 1 (canA a c).e,a.op⟩:=by
  generalize canA a c=b at h2 hop;unfold canA;rw[hop,byQ_again hc,h2]
 have e2:scaleE 1 (canA a c).e=(canA a c).e:=by
  unfold scaleE;have:(canA a c).e.t.map (mulT 1)=(canA a c).e.t:=by
   refine(List.map_congr_left fun t _=>?_).trans (List.map_id _);unfold mulT;rw[Rat.one_mul];rfl
  rw[this,h2,Rat.one_mul]
 rw[e1,e2];rfl
theorem sub_self(e:Ex):(subE e e).t.length=0∧(subE e e).c=0:=by
 unfold subE addE scaleE;constructor
 ·have:canL (e.t++canL (e.t.map (mulT (-1))))=[]:=canL_eq ⟨.nil,by simp⟩ fun v=>by
   rw[coef_append,(canL_spec _).2.1];have:=coef_map e.t (-1) v;have h2:coef (e.t.map (mulT (-1))) v= -1*coef e.t v:=this;rw[h2];simp only[coef];grind
  simp only;rw[this];rfl
 ·simp only;grind
theorem canNum(a:At)(k:Nat)(ho:okOp a.op)(ht:∀ t∈a.e.t,Bd k t.2)(hk:(a.e.t.length+2)*(k+1)≤50000000)(h0:canL a.e.t=[]):Fn Tryz.prog 117 [.g (enA a)] [.g zeroA,.d (.v (.int .i64 (if sayB a.op a.e.c then 1 else 2))),.d (.v (.int .i64 0))]:=by
 have hl0:(canL a.e.t).length=0:=by rw[h0];rfl
 refine Fn.of Tryz.func117 rfl (by kernel_rfl) Tryz.ntmps117 Tryz.results117 rfl fun w0 S0=>?_;refine wk ?_;refine c1 (checkA a ho) ?_;refine wk ?_;refine c1 (canF a.e k ht hk) ?_;refine wk ?_;refine s1 (fun h1=>?_) (fun h1=>?_)
 ·refine wk ?_;refine c1 (saysR a.op a.e.c ho) ?_;cases hs:sayB a.op a.e.c with
  | true=>
    refine wk ?_;simp only[if_true];exact⟨.cn rfl rfl inferInstance rfl ⟨.inr rfl,.inl rfl,.inr rfl,.inr rfl,.inl rfl,trivial⟩,.d rfl (.inl rfl),.d rfl (.inl rfl),trivial⟩
  | false=>
    refine wk ?_;simp only[if_false,Bool.false_eq_true];exact⟨.cn rfl rfl inferInstance rfl ⟨.inr rfl,.inl rfl,.inr rfl,.inr rfl,.inl rfl,trivial⟩,.d rfl (.inl rfl),.d rfl (.inl rfl),trivial⟩
 ·dsimp only at h1;exfalso;omega
theorem Bd.abs{k:Nat}{c:Rat}(h:Bd k c):Bd k (absR c):=by
 obtain⟨h1,h2,_⟩:=absR_num c;exact⟨by rw[h1];exact h.1,by rw[h2];exact h.2⟩
theorem canOpen(a:At)(k B:Nat)(ho:okOp a.op)(hc:Bd k a.e.c)(ht:∀ t∈a.e.t,Bd k t.2)(hB:(a.e.t.length+1)*(k+1)≤B)(hk:(a.e.t.length+2)*(B+B+1)≤50000000){v:Int}{c:Rat}{l:List Tm}(h0:canL a.e.t=(v,c)::l)(hne:c≠0):Fn Tryz.prog 117 [.g (enA a)] [.g (enA (canA a c)),.d (.v (.int .i64 0)),.d (.v (.int .i64 0))]:=by
 have hk0:k+1≤B:=Nat.le_trans (Nat.le_mul_of_pos_left _ (by omega)) hB;have hk1:(a.e.t.length+2)*(k+1)≤50000000:=Nat.le_trans (Nat.mul_le_mul_left _ (by omega)) hk;have hbd:∀ t∈canL a.e.t,Bd B t.2:=fun t h=>(canL_bd ht t h).mono hB;have hcK:Bd B c:=hbd (v,c) (by rw[h0];simp);have hK0:B≤50000000:=Nat.le_trans (Nat.le_trans (by omega) (Nat.le_mul_of_pos_left _ (by omega))) hk;have hln:0<(canL a.e.t).length:=by rw[h0];simp
 have hk2:((canL a.e.t).length+2)*(B+B+1)≤50000000:=Nat.le_trans (Nat.mul_le_mul_right _ (by have:=(canL_spec a.e.t).2.2;omega)) hk;have hget:(canL a.e.t)[0]?=some (v,c):=by rw[h0];rfl
 have hres:∀ q,byQ a.op c=q→canA a c=⟨scaleE q ⟨canL a.e.t,a.e.c⟩,a.op⟩:=fun q hq=>by unfold canA;rw[hq]
 refine Fn.of Tryz.func117 rfl (by kernel_rfl) Tryz.ntmps117 Tryz.results117 rfl fun w0 S0=>?_;refine wk ?_;refine c1 (checkA a ho) ?_;refine wk ?_;refine c1 (canF a.e k ht hk1) ?_;refine wk ?_;refine s1 (fun h1=>?_) (fun h1=>?_)
 ·dsimp only at h1;exfalso;omega
 ·refine wk ?_;refine s1 (fun h2=>?_) (fun h2=>?_)
  ·have hb:byQ a.op c=(absR c)⁻¹ :=by unfold byQ;rw[if_neg h2]
   refine wk ?_;refine c1 (ratAbs c) ?_;refine wk ?_;refine c1 (ratInv hcK.abs (by omega) (absR_ne hne)) ?_;refine wk ?_;refine c1 (scaleF (absR c)⁻¹ ⟨canL a.e.t,a.e.c⟩ B B (hcK.abs.inv (absR_ne hne)) hbd (hc.mono (by omega)) hk2) ?_;refine wk ?_;rw[hres _ hb];exact⟨.cn rfl rfl inferInstance rfl ⟨.inl rfl,.inl rfl,.inl rfl,.inl rfl,.inl rfl,trivial⟩,.d rfl (.inl rfl),.d rfl (.inl rfl),trivial⟩
  ·have hb:byQ a.op c=c⁻¹ :=by unfold byQ;rw[if_pos (Classical.byContradiction h2)]
   refine wk ?_;refine c1 (ratInv hcK (by omega) hne) ?_;refine wk ?_;refine c1 (scaleF c⁻¹ ⟨canL a.e.t,a.e.c⟩ B B (hcK.inv hne) hbd (hc.mono (by omega)) hk2) ?_;refine wk ?_;rw[hres _ hb];exact⟨.cn rfl rfl inferInstance rfl ⟨.inl rfl,.inl rfl,.inl rfl,.inl rfl,.inl rfl,trivial⟩,.d rfl (.inl rfl),.d rfl (.inl rfl),trivial⟩
end Go.Proofs.YtbbpecfapohlaaaGreatDoor
namespace Go.Proofs.YtbbpecfapohlaaaGreatDoor
open Go.RowKit
attribute [local irreducible] AC Do St
structure AN where
 e:EN
 op:Int
def enAN(a:AN):List D:=enEN a.e++[.v (.int .i64 a.op)]
def atN(a:AN):At:=⟨exN a.e,a.op⟩
theorem ofA(a:AN)(ha:okEN a.e):Fn Tryz.prog 56 [.g (enAN a)] [.g (enA (atN a))]:=by
 refine Fn.of Tryz.func56 rfl (by kernel_rfl) Tryz.ntmps56 Tryz.results56 rfl fun w0 S0=>?_;refine wk ?_;refine c1 (expr a.e ha) ?_;refine wk ?_;exact⟨.cn rfl rfl inferInstance rfl ⟨.inl rfl,.inl rfl,.inl rfl,.inl rfl,.inl rfl,trivial⟩,trivial⟩
theorem toldA(a:At)(k:Nat)(hk:k≤10000000)(hc:Bd k a.e.c)(ht:∀ t∈a.e.t,Bd k t.2)(hlen:a.e.t.length≤1000000):Fn Tryz.prog 129 [.g (enA a)] [.g (enAQ a)]:=by
 refine Fn.of Tryz.func129 rfl (by kernel_rfl) Tryz.ntmps129 Tryz.results129 rfl fun w0 S0=>?_;refine wk ?_;refine c1 (told8 a.e k hk hc ht hlen) ?_;refine wk ?_;exact⟨.cn rfl rfl inferInstance rfl ⟨.inl rfl,.inl rfl,.inl rfl,.inl rfl,.inl rfl,trivial⟩,trivial⟩
theorem atN_sm(a:AN)(ha:okEN a.e):Sm 12 256 (atN a).e:=by
 refine⟨bdN _ ha.c,fun t ht=>?_,?_⟩
 ·obtain⟨x,hx,rfl⟩:=List.mem_map.1 ht;exact bdN _ (ha.t x (List.mem_of_mem_take hx)).1
 ·show ((a.e.t.take 12).map tmN).length≤12;simp;omega
theorem Bd.byQ{k:Nat}{c:Rat}(op:Int)(h:Bd k c)(hc:c≠0):Bd k (byQ op c):=by
 unfold Go.Proofs.YtbbpecfapohlaaaGreatDoor.byQ;split
 ·exact h.inv hc
 ·exact h.abs.inv (absR_ne hc)
theorem canA_sm{N k B:Nat}(a:At)(h:Sm N k a.e)(hB:(N+1)*(k+1)≤B){v:Int}{c:Rat}{l:List Tm}(h0:canL a.e.t=(v,c)::l)(hne:c≠0):Sm N (B+B) (canA a c).e:=by
 have hB':(a.e.t.length+1)*(k+1)≤B:=Nat.le_trans (Nat.mul_le_mul_right _ (by have:=h.n;omega)) hB;have hbd:∀ t∈canL a.e.t,Bd B t.2:=fun t ht=>(canL_bd h.t t ht).mono hB';have hc:Bd B c:=hbd (v,c) (by rw[h0];simp);have hk:k≤B:=Nat.le_trans (Nat.le_trans (by omega) (Nat.le_mul_of_pos_left (k+1) (by omega:0<N+1))) hB;refine⟨?_,fun t ht=>?_,?_⟩
 ·rw[canA_c];exact(hc.byQ a.op hne).mul (h.c.mono hk)
 ·rw[canA_t a hne]at ht;obtain⟨u,hu,rfl⟩:=List.mem_map.1 ht;exact(hc.byQ a.op hne).mul (hbd u hu)
 ·rw[canA_t a hne,List.length_map];exact Nat.le_trans (canL_spec _).2.2 h.n
end Go.Proofs.YtbbpecfapohlaaaGreatDoor
namespace Go.Proofs.YtbbpecfapohlaaaGreatDoor
open Go.RowKit
attribute [local irreducible] AC Do St
theorem truth_none{a:At}(h:leadQ a.e=none):truthI a=if sayB a.op a.e.c then 1 else 2:=by unfold truthI;rw[h]
theorem truth_some{a:At}{x:Int×Rat}(h:leadQ a.e=some x):truthI a=0:=by unfold truthI;rw[h]
theorem Sm.mono{N k N' k':Nat}{e:Ex}(h:Sm N k e)(hN:N≤N')(hk:k≤k'):Sm N' k' e:=⟨h.c.mono hk,fun t ht=>(h.t t ht).mono hk,Nat.le_trans h.n hN⟩
end Go.Proofs.YtbbpecfapohlaaaGreatDoor
