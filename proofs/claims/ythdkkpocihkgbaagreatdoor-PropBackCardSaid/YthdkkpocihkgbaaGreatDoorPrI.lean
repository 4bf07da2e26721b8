import Derived.Test.YthdkkpocihkgbaaGreatDoorPrC
import Derived.Test.YthdkkpocihkgbaaGreatDoorRef8
set_option maxRecDepth 100000
set_option maxHeartbeats 4000000
namespace Go.Proofs.YthdkkpocihkgbaaGreatDoor
open Go.RowKit
attribute [local irreducible] AC Do St
structure PP where
 box:List (Rat×Rat)
 ats:List At
 bad:FT
def enSd(s:Rat×Rat):List D:=enR s.1++enR s.2
def enSdQ(s:Rat×Rat):List D:=enQ s.1++enQ s.2
def enPP(p:PP):List D:=[.l (p.box.map enSd),.l (p.ats.map enA)]++enF p.bad
def enPQ(p:PP):List D:=[.l (p.box.map enSdQ),.l (p.ats.map enAQ)]++enF p.bad
def insL:List (Rat×Rat)→List Rat→Bool
 | [],[]=>true
 | s::b,x::r=>!(decide (sgnR (x-s.1)<0)||decide (0<sgnR (x-s.2)))&&insL b r
 | _,_=>false
theorem insL_ne:∀ (b:List (Rat×Rat)) (x:List Rat),x.length≠b.length→insL b x=false
 | [],[],h=>absurd rfl h
 | [],_::_,_=>rfl
 | _::_,[],_=>rfl
 | s::b,q::x,h=>by
   rw[insL,insL_ne b x (fun e=>h (by simp[e])),Bool.and_false]
theorem sgnR_opp(q:Rat):sgnR (-q)= - sgnR q:=by
 unfold sgnR;simp only[Rat.neg_num];omega
theorem sgn_swap(a b:Rat):decide (sgnR (b-a)<0)=decide (0<sgnR (a-b)):=by
 have e:b-a= -(a-b):=by
  rw[Rat.neg_sub]
 rw[e,sgnR_opp];by_cases h:0<sgnR (a-b)
 ·rw[decide_eq_true h,decide_eq_true (by omega)]
 ·rw[decide_eq_false h,decide_eq_false (by omega)]
def bdPP(k:Nat)(p:PP):Prop:=(∀s∈p.box,Bd k s.1∧Bd k s.2)∧p.box.length≤1000000
theorem insideF{k m:Nat}(p:PP)(x:List Rat)(hp:bdPP k p)(hx:∀ q∈x,Bd m q)(hk:m+k≤50000000):Fn Tryz.prog 37 [.g (enPP p),.d (.l (x.map enR))] [.d (.v (.bool (insL p.box x)))]:=by
 obtain⟨hb,hbl⟩:=hp;obtain⟨bx,ats,bad⟩:=p;dsimp only at hb hbl;obtain⟨R,hR⟩:∃ R,insL bx x=R:=⟨_,rfl⟩
 rw[show enPP ⟨bx,ats,bad⟩=[.l (bx.map enSd),.l (ats.map enA)]++enF bad from rfl,show insL (⟨bx,ats,bad⟩:PP).box x=R from hR];by_cases hl:x.length=bx.length
 rotate_left
 ·rw[insL_ne bx x hl]at hR;subst hR;refine Fn.of Tryz.func37 rfl (by kernel_rfl) Tryz.ntmps37 Tryz.results37 rfl fun w0 S0=>?_;refine wk ?_;exact⟨.d rfl (.inl rfl),trivial⟩
 refine Fn.of Tryz.func37 rfl (by kernel_rfl) Tryz.ntmps37 Tryz.results37 rfl fun w0 S0=>?_;refine wk ?_;refine AC.loop (X:=Nat) (fun i=>⟨[(1,.d (.l (x.map enR))),(14,.d (.l (bx.map enSd))),(15,.d (.v (.int .i64 (bx.length:Int)))),(16,.d (.v (.int .i64 (i:Int))))],[]⟩) (fun i=>i≤bx.length∧insL (bx.drop i) (x.drop i)=R) (fun i=>bx.length-i) 0 ⟨Nat.zero_le _,hR⟩ ⟨rfl,rfl,rfl,rfl,trivial⟩ trivial ?_;intro i ⟨hi,hgo⟩;dsimp only at hi hgo ⊢;refine wk ?_;refine s1 (fun g1=>?_) (fun g1=>?_)
 ·have hi1:i<bx.length:=by omega
  have hi2:i<x.length:=by omega
  have hs:bx[i]?=some bx[i]:=List.getElem?_eq_getElem hi1;have hq:x[i]?=some x[i]:=List.getElem?_eq_getElem hi2;rw[List.drop_eq_getElem_cons hi1,List.drop_eq_getElem_cons hi2,insL]at hgo;obtain⟨b1,b2⟩:=hb _ (List.getElem_mem hi1);have b3:=hx _ (List.getElem_mem hi2);generalize bx[i]=s at hs hgo b1 b2;generalize x[i]=q at hq hgo b3;obtain⟨lo,hi⟩:=s;dsimp only at hgo b1 b2;have c1':=ratCmp b3 b1 hk;have c2':=ratCmp b3 b2 hk;generalize sgnR (q-lo)=u at c1' hgo;generalize sgnR (q-hi)=v at c2' hgo;by_cases h1:u<0
  ·rw[decide_eq_true h1,Bool.true_or,Bool.not_true,Bool.false_and]at hgo;subst hgo;refine wk ?_;refine c1 c1' ?_;refine wk ?_;exact⟨.d rfl (.inl rfl),trivial⟩
  rw[decide_eq_false h1,Bool.false_or]at hgo;by_cases h2:0<v
  ·rw[decide_eq_true h2,Bool.not_true,Bool.false_and]at hgo;subst hgo;refine wk ?_;refine c1 c1' ?_;refine wk ?_;refine c1 c2' ?_;refine wk ?_;exact⟨.d rfl (.inl rfl),trivial⟩
  rw[decide_eq_false h2,Bool.not_false,Bool.true_and]at hgo;refine wk ?_;refine c1 c1' ?_;refine wk ?_;refine c1 c2' ?_;refine wk ?_;exact⟨i+1,⟨hi1,hgo⟩,by omega,⟨rfl,rfl,rfl,rfl,trivial⟩,trivial⟩
 ·have e1:bx.drop i=[]:=List.drop_of_length_le (by omega);have e2:x.drop i=[]:=List.drop_of_length_le (by omega);rw[e1,e2,insL]at hgo;subst hgo;refine wk ?_;exact⟨.d rfl (.inl rfl),trivial⟩
theorem inside16{k m:Nat}(p:PP)(x:List Rat)(hp:bdPP k p)(hx:∀ q∈x,Bd m q)(hk:m+k≤50000000):Fn Tryz.prog 38 [.g (enPQ p),.d (.l (x.map enQ))] [.d (.v (.bool (insL p.box x)))]:=by
 obtain⟨hb,hbl⟩:=hp;obtain⟨bx,ats,bad⟩:=p;dsimp only at hb hbl;obtain⟨R,hR⟩:∃ R,insL bx x=R:=⟨_,rfl⟩
 rw[show enPQ ⟨bx,ats,bad⟩=[.l (bx.map enSdQ),.l (ats.map enAQ)]++enF bad from rfl,show insL (⟨bx,ats,bad⟩:PP).box x=R from hR];by_cases hl:x.length=bx.length
 rotate_left
 ·rw[insL_ne bx x hl]at hR;subst hR;refine Fn.of Tryz.func38 rfl (by kernel_rfl) Tryz.ntmps38 Tryz.results38 rfl fun w0 S0=>?_;refine wk ?_;exact⟨.d rfl (.inl rfl),trivial⟩
 refine Fn.of Tryz.func38 rfl (by kernel_rfl) Tryz.ntmps38 Tryz.results38 rfl fun w0 S0=>?_;refine wk ?_;refine AC.loop (X:=Nat) (fun i=>⟨[(1,.d (.l (x.map enQ))),(2,.p 2 0),(12,.d (.l (x.map enQ))),(13,.d (.v (.int .i64 (x.length:Int)))),(14,.d (.v (.int .i64 (i:Int))))],[(2,.box 92 (([D.l (bx.map enSdQ),D.l (ats.map enAQ)]++enF bad).map .d))]⟩) (fun i=>i≤x.length∧insL (bx.drop i) (x.drop i)=R) (fun i=>x.length-i) 0 ⟨Nat.zero_le _,hR⟩ ⟨rfl,rfl,rfl,rfl,rfl,trivial⟩ ⟨rfl,trivial⟩ ?_;intro i ⟨hi,hgo⟩;dsimp only at hi hgo ⊢;refine wk ?_;refine s1 (fun g1=>?_) (fun g1=>?_)
 ·have hi1:i<bx.length:=by omega
  have hi2:i<x.length:=by omega
  have hs:bx[i]?=some bx[i]:=List.getElem?_eq_getElem hi1;have hq:x[i]?=some x[i]:=List.getElem?_eq_getElem hi2;rw[List.drop_eq_getElem_cons hi1,List.drop_eq_getElem_cons hi2,insL]at hgo;obtain⟨b1,b2⟩:=hb _ (List.getElem_mem hi1);have b3:=hx _ (List.getElem_mem hi2);generalize bx[i]=s at hs hgo b1 b2;generalize x[i]=q at hq hgo b3;obtain⟨lo,hi⟩:=s;dsimp only at hgo b1 b2;have c1':=qCmp b3 b1 hk;have c2':=qCmp b2 b3 (by omega);rw[←sgn_swap]at hgo;generalize sgnR (q-lo)=u at c1' hgo;generalize sgnR (hi-q)=v at c2' hgo;by_cases h1:u<0
  ·rw[decide_eq_true h1,Bool.true_or,Bool.not_true,Bool.false_and]at hgo;subst hgo;refine wk ?_;refine c1 c1' ?_;refine wk ?_;exact⟨.d rfl (.inl rfl),trivial⟩
  rw[decide_eq_false h1,Bool.false_or]at hgo;by_cases h2:v<0
  ·rw[decide_eq_true h2,Bool.not_true,Bool.false_and]at hgo;subst hgo;refine wk ?_;refine c1 c1' ?_;refine wk ?_;refine c1 c2' ?_;refine wk ?_;exact⟨.d rfl (.inl rfl),trivial⟩
  rw[decide_eq_false h2,Bool.not_false,Bool.true_and]at hgo;refine wk ?_;refine c1 c1' ?_;refine wk ?_;refine c1 c2' ?_;refine wk ?_;exact⟨i+1,⟨hi2,hgo⟩,by omega,⟨rfl,rfl,rfl,rfl,rfl,trivial⟩,⟨rfl,trivial⟩⟩
 ·have e1:bx.drop i=[]:=List.drop_of_length_le (by omega);have e2:x.drop i=[]:=List.drop_of_length_le (by omega);rw[e1,e2,insL]at hgo;subst hgo;refine wk ?_;exact⟨.d rfl (.inl rfl),trivial⟩
end Go.Proofs.YthdkkpocihkgbaaGreatDoor
