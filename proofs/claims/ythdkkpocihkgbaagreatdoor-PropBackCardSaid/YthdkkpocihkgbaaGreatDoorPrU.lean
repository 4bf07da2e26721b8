import Derived.Test.YthdkkpocihkgbaaGreatDoorPrT
set_option maxRecDepth 100000
set_option maxHeartbeats 16000000
namespace Go.Proofs.YthdkkpocihkgbaaGreatDoor
open Go.RowKit
attribute [local irreducible] AC Do St
theorem linVar(v:Int):Fn Tryz.prog 196 [.d (.v (.int .i64 v))] [.g (enE ⟨[(v,1)],0⟩)]:=by
 have h1:=ratInt 1 (by omega) (by omega);refine Fn.of Tryz.func196 rfl (by kernel_rfl) Tryz.ntmps196 Tryz.results196 rfl fun w0 S0=>?_;refine wk ?_;refine c1 h1 ?_;refine wk ?_;exact⟨.cn rfl rfl inferInstance rfl ⟨.inl rfl,.inl rfl,.inr (by rw[show (0:Rat).num.natAbs=0 from rfl,limbs_zero];rfl),.inr rfl,trivial⟩,trivial⟩
theorem linOf(q:Rat):Fn Tryz.prog 197 [.g (enR q)] [.g (enE ⟨[],q⟩)]:=by
 refine Fn.of Tryz.func197 rfl (by kernel_rfl) Tryz.ntmps197 Tryz.results197 rfl fun w0 S0=>?_;refine wk ?_;exact⟨.cn rfl rfl inferInstance rfl ⟨.inr rfl,.inl rfl,.inl rfl,.inl rfl,trivial⟩,trivial⟩
mutual
def swX:ST→Prop
 | .mk _ w l=>w.length≤20000∧swXs l
def swXs:List ST→Prop
 | []=>True
 | s::r=>swX s∧swXs r
end
theorem swX_mk(b:Bool)(w:List UInt8)(l:List ST):swX (.mk b w l)=(w.length≤20000∧swXs l):=by rw[swX]
theorem swXs_mem:∀ {l:List ST},swXs l→∀ s∈l,swX s
 | [],_,s,h=>nomatch h
 | x::r,h,s,hs=>by
   rw[swXs]at h;rcases List.mem_cons.1 hs with rfl | hs
   ·exact h.1
   ·exact swXs_mem h.2 s hs
theorem swX_w{s:ST}(h:swX s):s.w.length≤20000:=by obtain⟨b,w,l⟩:=s;rw[swX_mk]at h;exact h.1
noncomputable def lstX (i:Int)(hw:List UInt8)(t:List ST):Ex×Bool:=
 if hw=[43]then addAll (t.map (sumX i))
 else if hw=[45]then(match t with
  | [x]=>(scaleE (-1) (sumX i x).1,(sumX i x).2)
  | [x,y]=>(subE (sumX i x).1 (sumX i y).1,(sumX i x).2&&(sumX i y).2)
  | _=>(⟨[],0⟩,false))
 else if hw=[42]then(match t with
  | [n,y]=>(scaleE (numX n).1 (sumX i y).1,(numX n).2&&(sumX i y).2)
  | _=>(⟨[],0⟩,false))
 else(⟨[],0⟩,false)
theorem sumX_l(i:Int)(w:List UInt8)(l:List ST):sumX i (.mk false w l)=lstX i (headX (.mk false w l)).1 (headX (.mk false w l)).2:=by
 rw[sumX_mk,if_neg (by decide),sumXs_map];cases l with
 | nil=>rfl
 | cons h t=>
   rw[List.map_cons,combX];unfold headX;dsimp only;by_cases hb:h.b=true
   ·rw[if_pos hb,if_pos hb];unfold lstX;dsimp only
    congr 1
    match t with
    | []=>rfl
    | [x]=>rfl
    | [x,y]=>rfl
    | _::_::_::_=>rfl
   ·rw[if_neg hb,if_neg hb];rfl
theorem headX_in(w:List UInt8)(l:List ST):(headX (.mk false w l)).2=[]∨∃ h,l=h::(headX (.mk false w l)).2:=by
 cases l with
 | nil=>exact .inl rfl
 | cons h t=>
   unfold headX;dsimp only;by_cases hb:h.b=true
   ·rw[if_pos hb];exact .inr ⟨h,rfl⟩
   ·rw[if_neg hb];exact .inl rfl
theorem kX_12(s:ST):12*cX s≤kX s:=by
 have:=wX_pos s;unfold kX;rw[Nat.mul_comm];exact Nat.mul_le_mul_left _ (by omega)
theorem kX_rest{w:List UInt8}{l t:List ST}(h:t=[]∨∃ h,l=h::t):1+cXs t*(4*wXs t+9)≤kX (.mk false w l):=by
 have hK:kX (.mk false w l)=(1+cXs l)*(4*(w.length+1+wXs l)+8):=by unfold kX;rw[cX_mk,wX_mk]
 rcases h with rfl | ⟨h,rfl⟩
 ·rw[cXs_nil,hK];have:1*1≤(1+cXs l)*(4*(w.length+1+wXs l)+8):=Nat.mul_le_mul (by omega) (by omega);omega
 ·rw[hK,wXs_cons,cXs_cons];have hwp:=wX_pos h;have e1:(1+cXs t)*(4*wXs t+9)=4*wXs t+9+cXs t*(4*wXs t+9):=by rw[Nat.add_mul,Nat.one_mul]
  have e2:(1+cXs t)*(4*wXs t+9)≤(1+(cX h+cXs t))*(4*(w.length+1+(wX h+wXs t))+8):=Nat.mul_le_mul (by omega) (by omega);omega
theorem cXs_at{t:List ST}{j:Nat}(h:j<t.length):cXs (t.take j)+cX t[j]≤cXs t∧wXs (t.take j)≤wXs t:=by
 induction t generalizing j with
 | nil=>simp at h
 | cons x r ih=>
   cases j with
   | zero=>rw[List.take_zero,cXs_nil,wXs_nil,cXs_cons,List.getElem_cons_zero];omega
   | succ j=>
     have:=ih (j:=j) (by simpa using h);rw[List.take_succ_cons,cXs_cons,wXs_cons,cXs_cons,wXs_cons,List.getElem_cons_succ];omega
noncomputable def parX' (i:Int)(t:List ST)(j:Nat):Ex×Bool:=addAll ((t.take j).map (sumX i))
theorem parX'_zero(i:Int)(t:List ST):parX' i t 0=(⟨[],0⟩,true):=rfl
theorem parX'_succ(i:Int)(t:List ST){j:Nat}(h:j<t.length):parX' i t (j+1)=(addE (parX' i t j).1 (sumX i t[j]).1,(parX' i t j).2&&(sumX i t[j]).2):=by
 unfold parX' addAll;rw[List.take_succ_eq_append_getElem h,List.map_append,List.foldl_append];rfl
theorem parX'_bd(i:Int)(t:List ST){j:Nat}(h:j<t.length):tb (parX' i t j).1.t+tb (sumX i t[j]).1.t≤1+cXs t*(4*wXs t+9)∧bz (parX' i t j).1.c+bz (sumX i t[j]).1.c≤1+cXs t*(4*wXs t+9):=by
 obtain⟨p1,p2,p3⟩:=sumX_bd i _ t[j] (Nat.lt_succ_self _);obtain⟨q1,q2,q3⟩:=addAll_bd ((t.take j).map (sumX i)) (t.take j) (⟨[],0⟩,true) 0 (wXs t) 1 (by simp) (fun k h1 h2=>by rw[List.getElem_map];exact sumX_bd i _ _ (Nat.lt_succ_self _)) (by simp[tb]) (by simp) (by rw[show (⟨[],0⟩:Ex).c=0 from rfl,bz_0];omega) (cXs_at h).2;have h1:=(cXs_at h).1;have hw:=(wXs_mem (List.getElem_mem h)).1;have e1:kX t[j]≤cX t[j]*(4*wXs t+9):=Nat.mul_le_mul_left _ (by omega);have e2:cXs (t.take j)*(4*wXs t+9)+cX t[j]*(4*wXs t+9)≤cXs t*(4*wXs t+9):=by rw[←Nat.add_mul];exact Nat.mul_le_mul_right _ h1
 exact⟨Nat.le_trans (Nat.add_le_add q1 p1) (by omega),Nat.le_trans (Nat.add_le_add q3 p3) (by omega)⟩
theorem kX_two{w:List UInt8}{l:List ST}{h x y:ST}(hl:l=[h,x,y]):kX x+kX y+cX y+cX x≤kX (.mk false w l)∧kX y+cX y*(4*x.w.length+4)≤kX (.mk false w l)∧4*x.w.length+4≤kX (.mk false w l):=by
 subst hl;have hK:kX (.mk false w [h,x,y])=(1+(cX h+(cX x+cX y)))*(4*(w.length+1+(wX h+(wX x+wX y)))+8):=by unfold kX;rw[cX_mk,wX_mk,wXs_cons,wXs_cons,wXs_cons,wXs_nil,cXs_cons,cXs_cons,cXs_cons,cXs_nil];simp
 have hwp:=wX_pos h;have hx:=wX_word x;have hxc:=cX_pos x;have e1:cX y*(4*wX y+9)=kX y+cX y:=Nat.mul_succ ..;have e0:cX x*(4*wX x+9)=kX x+cX x:=Nat.mul_succ ..;have e2:(cX x+cX y)*(4*(wX x+wX y)+9)≤kX (.mk false w [h,x,y]):=by rw[hK];exact Nat.mul_le_mul (by omega) (by omega)
 have e3:(cX x+cX y)*(4*(wX x+wX y)+9)=cX x*(4*(wX x+wX y)+9)+cX y*(4*(wX x+wX y)+9):=by rw[Nat.add_mul]
 have e4:cX x*(4*wX x+9)≤cX x*(4*(wX x+wX y)+9):=Nat.mul_le_mul_left _ (by omega);have e5:cX y*(4*wX y+9)≤cX y*(4*(wX x+wX y)+9):=Nat.mul_le_mul_left _ (by omega);have f1:cX y*(4*wX y+8)+cX y*(4*x.w.length+4)=cX y*(4*wX y+8+(4*x.w.length+4)):=(Nat.mul_add ..).symm;have f2:cX y*(4*wX y+8+(4*x.w.length+4))≤kX (.mk false w [h,x,y]):=by rw[hK];exact Nat.mul_le_mul (by omega) (by omega)
 have f3:1*(4*x.w.length+4)≤kX (.mk false w [h,x,y]):=by rw[hK];exact Nat.mul_le_mul (by omega) (by omega)
 have e6:kX y=cX y*(4*wX y+8):=rfl;exact⟨by omega,by omega,by omega⟩
theorem txEq{l m:List UInt8}{r:Bool}(h:decide (l=m)=r):((tx l).toList==(tx m).toList)=r:=by
 rw[tx_list,tx_list,←h];exact Bool.eq_iff_iff.2 (by simp)
theorem rpSum{Kw:World→Prop}[KSt Kw][KHas Kw MaxL](b:Nat)(i:Int)(x:Value):∀ (m:Nat) (s:ST),wX s<m→swX s→kX s≤40000000→∀ (bad:Bool),FnO Tryz.prog 148 Kw (rpR b i x bad) [.d (.v (ptv b 0)),.g (enX s)] (fun post res=>post=rpR b i x (bad||!(sumX i s).2)∧res=[.g (enE (sumX i s).1)]):=by
 intro m
 induction m with
 | zero=>intro s h;omega
 | succ m ih=>
 intro s hm hsw hk bad;obtain⟨sb,w,l⟩:=s;have hV:∀ bad,FnO Tryz.prog 195 Kw (rpR b i x bad) _ _:=fun bad=>⟨(rpVariable b i x bad w).body,fun S w0 vs _=>(rpVariable b i x bad w).run S w0 vs fun _ _=>trivial⟩
 have hF:∀ bad,FnO Tryz.prog 147 Kw (rpR b i x bad) _ _:=fun bad=>⟨(rpFail b i x bad).body,fun S w0 vs _=>(rpFail b i x bad).run S w0 vs fun _ _=>trivial⟩
 cases sb with
 | true=>
   have hN:=rpNumber (Kw:=Kw) b i x bad (.mk true w l) (swX_w hsw);rw[sumX_mk,if_pos rfl];unfold leafX;rw[enX_mk]at hN ⊢;have hV:=hV bad;cases hv:(varV i w).2 with
   | true=>
     rw[hv]at hV;rw[if_pos rfl,show (bad||!true)=bad by cases bad<;>rfl];refine FnO.of Tryz.func148 rfl (by kernel_rfl) Tryz.ntmps148 Tryz.results148 rfl rfl fun w0 S0 vs hS hv hKW=>⟨_,fun t v h=> .inl h,?_⟩
     refine wp ?_;refine cO (hV) ?_;refine wp ?_;refine c1 (linVar (varV i w).1) ?_;refine wp ?_;exact rp_ret rfl ⟨.cn rfl rfl inferInstance rfl ⟨.inl rfl,.inl rfl,.inl rfl,.inl rfl,trivial⟩,trivial⟩
   | false=>
     rw[hv]at hV;rw[if_neg (by decide)];unfold numX at hN;dsimp only[ST.w,ST.b,ST.mk]at hN;rw[Bool.true_and]at hN;refine FnO.of Tryz.func148 rfl (by kernel_rfl) Tryz.ntmps148 Tryz.results148 rfl rfl fun w0 S0 vs hS hv hKW=>⟨_,fun t v h=> .inl h,?_⟩
     refine wp ?_;refine cO (hV) ?_;refine wp ?_;refine cO (hN) ?_;refine c1 (linOf ((parseR w).getD 0)) ?_;refine wp ?_;exact rp_ret rfl ⟨.cn rfl rfl inferInstance rfl ⟨.inl rfl,.inl rfl,.inl rfl,.inl rfl,trivial⟩,trivial⟩
 | false=>
 have hH:=propHead (.mk false w l);have hin:=headX_in w l;have hkr:=kX_rest (w:=w) hin;rw[sumX_l];rw[swX_mk]at hsw;rw[wX_mk]at hm;have hmem:∀ y∈(headX (.mk false w l)).2,y∈l:=fun y hy=>by
  rcases hin with h | ⟨h,hh⟩
  ·rw[h]at hy;cases hy
  ·rw[hh];exact List.mem_cons_of_mem _ hy
 have hk2:∀ y z,(headX (.mk false w l)).2=[y,z]→kX y+kX z+cX z+cX y≤kX (.mk false w l)∧kX z+cX z*(4*y.w.length+4)≤kX (.mk false w l)∧4*y.w.length+4≤kX (.mk false w l):=fun y z e=>by
  rcases hin with h | ⟨h,hh⟩
  ·rw[h]at e;cases e
  ·rw[e]at hh;exact kX_two hh
 rw[enX_mk]at hH ⊢;generalize (headX (.mk false w l)).1=hw at hH hin hkr hmem hk2 ⊢;generalize (headX (.mk false w l)).2=t at hH hin hkr hmem hk2 ⊢;clear hin;have ih':∀ y∈t,∀bad,FnO Tryz.prog 148 Kw (rpR b i x bad) [.d (.v (ptv b 0)),.g (enX y)] (fun post res=>post=rpR b i x (bad||!(sumX i y).2)∧res=[.g (enE (sumX i y).1)]):=fun y hy bad=>ih y (by have:=(wXs_mem (hmem y hy)).1;omega) (swXs_mem hsw.2 y (hmem y hy)) (Nat.le_trans (kX_mem (hmem y hy)) hk) bad;have hbd:∀ y∈t,exB (cX y) (kX y) (sumX i y).1∧kX y≤kX (.mk false w l):=fun y hy=>⟨sumX_bd i _ y (Nat.lt_succ_self _),kX_mem (hmem y hy)⟩
 have hN':∀ y∈t,∀bad,FnO Tryz.prog 92 Kw (rpR b i x bad) _ _:=fun y hy bad=>rpNumber (Kw:=Kw) b i x bad y (swX_w (swXs_mem hsw.2 y (hmem y hy)));have hml:(t.map enX).length=t.length:=List.length_map ..;have htl:t.length≤40000000:=by
  have h1:=cXs_len t;have h2:cXs t*1≤cXs t*(4*wXs t+9):=Nat.mul_le_mul_left _ (by omega);omega
 have hto:FnO Tryz.prog 148 Kw (rpR b i x bad) [.d (.v (ptv b 0)),.g [.v (.bool false),.v (.string (tx w)),.l (l.map enX)]] (fun post res=>post=rpR b i x (bad||!(lstX i hw t).2)∧res=[.g (enE (lstX i hw t).1)]):=by
  generalize hKK:kX (.mk false w l)=KK at*;clear hKK ih hmem;unfold lstX;by_cases c1':hw=[43]
  ·rw[if_pos c1'];refine FnO.of Tryz.func148 rfl (by kernel_rfl) Tryz.ntmps148 Tryz.results148 rfl rfl fun w0 S0 vs hS hv hKW=>⟨_,fun t v h=> .inl h,?_⟩
   refine wp ?_;refine AC.fgBox 9 rfl ?_;have e0:([(0:Nat)].map fun _=>(enE ⟨[],0⟩).map AV.d)=[[.d (.l []),.d (.v (.bool false)),.d (.l []),.d (.l [])]]:=by
    unfold enE;rw[enR_zero];rfl
   have e0:(enE ⟨[],0⟩).map AV.d=[.d (.l []),.d (.v (.bool false)),.d (.l []),.d (.l [])]:=by simpa using e0
   refine AC.loop (X:=Nat) (fun j=>⟨[(0,.d (.v (ptv b 0))),(4,.p 4 0),(9,.p 9 0),(37,.d (.l (t.map enX))),(38,.d (.v (.int .i64 (t.length:Int)))),(39,.d (.v (.int .i64 (j:Int))))],[(4,.box 155 [.d .n,.d (.v (.bool false)),.d .n,.d .n]),(9,.box 155 ((enE (parX' i t j).1).map .d)),(205,rpO b i x (bad||!(parX' i t j).2))]⟩) (fun j=>j≤t.length) (fun j=>t.length-j) 0 (Nat.zero_le _) ⟨rfl,rfl,rfl,rfl,rfl,rfl,trivial⟩ ⟨rfl,by dsimp only;rw[parX'_zero,e0];rfl,by dsimp only;rw[parX'_zero,show (bad||!true)=bad by cases bad<;>rfl];rfl,trivial⟩ ?_;intro j hj;dsimp only at hj ⊢;refine wp ?_;refine s1 (fun g1=>?_) (fun g1=>?_)
   ·have hj1:j<t.length:=by omega
    have hg:t[j]?=some t[j]:=List.getElem?_eq_getElem hj1;have hps:=parX'_succ i t hj1;obtain⟨q1,q2⟩:=parX'_bd i t hj1;have hi:=ih' t[j] (List.getElem_mem hj1) (bad||!(parX' i t j).2);generalize t[j]=y at hg hps q1 q2 hi;refine wp ?_;refine cO (hi) ?_;refine c1 (addTF (parX' i t j).1 (sumX i y).1 (by omega) (by omega)) ?_;refine wp ?_;exact⟨j+1,hj1,by omega,⟨rfl,rfl,rfl,rfl,rfl,rfl,trivial⟩,⟨rfl,by dsimp only;rw[hps];rfl,by dsimp only;rw[hps,show (bad||!((parX' i t j).2&&(sumX i y).2))=(bad||!(parX' i t j).2||!(sumX i y).2)by cases bad<;>cases (parX' i t j).2<;>rfl];rfl,trivial⟩⟩
   ·obtain rfl:j=t.length:=by omega
    have he:parX' i t t.length=addAll (t.map (sumX i)):=by unfold parX';rw[List.take_length]
    rw[he];refine wp ?_;exact rp_ret rfl ⟨.cn rfl rfl inferInstance rfl ⟨.inl rfl,.inl rfl,.inl rfl,.inl rfl,trivial⟩,trivial⟩
  rw[if_neg c1'];have fin0:∀ (hne:¬ (hw=[45]∧(t.length=1∨t.length=2))∧¬ (hw=[42]∧t.length=2)),FnO Tryz.prog 148 Kw (rpR b i x bad) [.d (.v (ptv b 0)),.g [.v (.bool false),.v (.string (tx w)),.l (l.map enX)]] (fun post res=>post=rpR b i x true∧res=[.g (enE ⟨[],0⟩)]):=fun⟨n1,n2⟩=>by
   by_cases d1:hw=[45]
   ·have m1:¬ t.length=1:=fun h=>n1 ⟨d1,.inl h⟩;have m2:¬ t.length=2:=fun h=>n1 ⟨d1,.inr h⟩;have d2:hw≠[42]:=fun h=>by rw[h]at d1;cases d1
    refine FnO.of Tryz.func148 rfl (by kernel_rfl) Tryz.ntmps148 Tryz.results148 rfl rfl fun w0 S0 vs hS hv hKW=>⟨_,fun t v h=> .inl h,?_⟩
    refine wp ?_;refine cO (hF bad) ?_;refine wp ?_;exact rp_ret rfl ⟨.cn rfl rfl inferInstance rfl ⟨.inl rfl,.inl rfl,.inl rfl,.inl rfl,trivial⟩,trivial⟩
   ·by_cases d2:hw=[42]
    ·have m2:¬ t.length=2:=fun h=>n2 ⟨d2,h⟩;refine FnO.of Tryz.func148 rfl (by kernel_rfl) Tryz.ntmps148 Tryz.results148 rfl rfl fun w0 S0 vs hS hv hKW=>⟨_,fun t v h=> .inl h,?_⟩
     refine wp ?_;refine cO (hF bad) ?_;refine wp ?_;exact rp_ret rfl ⟨.cn rfl rfl inferInstance rfl ⟨.inl rfl,.inl rfl,.inl rfl,.inl rfl,trivial⟩,trivial⟩
    ·refine FnO.of Tryz.func148 rfl (by kernel_rfl) Tryz.ntmps148 Tryz.results148 rfl rfl fun w0 S0 vs hS hv hKW=>⟨_,fun t v h=> .inl h,?_⟩
     refine wp ?_;refine cO (hF bad) ?_;refine wp ?_;exact rp_ret rfl ⟨.cn rfl rfl inferInstance rfl ⟨.inl rfl,.inl rfl,.inl rfl,.inl rfl,trivial⟩,trivial⟩
  by_cases c2:hw=[45]
  ·rw[if_pos c2];have d3:hw≠[42]:=fun h=>by rw[h]at c2;cases c2
   match t,hH,hkr,hk2,ih',hbd,hN',hml,htl,fin0 with
   | [],_,_,_,_,_,_,_,_,fin0=>
     rw[show (bad||!false)=true by cases bad<;>rfl];exact fin0 ⟨fun h=>by simp at h,fun h=>by simp at h⟩
   | [y],hH,hkr,hk2,ih',hbd,hN',hml,htl,fin0=>
     have hi:=ih' y (by simp) bad;obtain⟨⟨q1,q2,q3⟩,q4⟩:=hbd y (by simp);have q5:=kX_12 y;have hg:[y][0]?=some y:=rfl;have hl1:[y].length=1:=rfl;have q6:=tb_mulT (-1) (sumX i y).1.t;rw[bz_m1]at q6;refine FnO.of Tryz.func148 rfl (by kernel_rfl) Tryz.ntmps148 Tryz.results148 rfl rfl fun w0 S0 vs hS hv hKW=>⟨_,fun t v h=> .inl h,?_⟩
     refine wp ?_;refine c1 (ratInt (-1) (by omega) (by omega)) ?_;refine wp ?_;refine cO (hi) ?_;refine c1 (scaleTF (-1) (sumX i y).1 (by omega) (fun u hu=>by have:=tb_mem hu;rw[bz_m1];omega) (by rw[bz_m1];omega)) ?_;refine wp ?_;exact rp_ret rfl ⟨.cn rfl rfl inferInstance rfl ⟨.inl rfl,.inl rfl,.inl rfl,.inl rfl,trivial⟩,trivial⟩
   | [y,z],hH,hkr,hk2,ih',hbd,hN',hml,htl,fin0=>
     have hi:=ih' y (by simp) bad;have hj:=ih' z (by simp) (bad||!(sumX i y).2);obtain⟨⟨q1,q2,q3⟩,q4⟩:=hbd y (by simp);obtain⟨⟨r1,r2,r3⟩,r4⟩:=hbd z (by simp);obtain⟨k1,_,_⟩:=hk2 y z rfl;have hg:[y,z][0]?=some y:=rfl;have hg1:[y,z][1]?=some z:=rfl;have hl1:[y,z].length=2:=rfl;have q6:=tb_mulT (-1) (sumX i z).1.t;obtain⟨s1',s2',s3'⟩:=scaleE_tb (-1) (sumX i z).1;rw[bz_m1]at q6 s1' s3';have q5:=kX_12 z;refine FnO.of Tryz.func148 rfl (by kernel_rfl) Tryz.ntmps148 Tryz.results148 rfl rfl fun w0 S0 vs hS hv hKW=>⟨_,fun t v h=> .inl h,?_⟩
     refine wp ?_;refine cO (hi) ?_;refine wp ?_;refine cO (hj) ?_;refine c1 (subTF (sumX i y).1 (sumX i z).1 (by omega) (fun u hu=>by have:=tb_mem hu;omega) (by omega) (by omega) (by omega)) ?_;refine wp ?_;dsimp only;rw[show (bad||!((sumX i y).2&&(sumX i z).2))=(bad||!(sumX i y).2||!(sumX i z).2)by cases bad<;>cases (sumX i y).2<;>rfl];exact rp_ret rfl ⟨.cn rfl rfl inferInstance rfl ⟨.inl rfl,.inl rfl,.inl rfl,.inl rfl,trivial⟩,trivial⟩
   | _::_::_::_,_,_,_,_,_,_,_,_,fin0=>
     dsimp only;rw[show (bad||!false)=true by cases bad<;>rfl];exact fin0 ⟨fun h=>by simp at h,fun h=>by simp at h⟩
  rw[if_neg c2];by_cases c3:hw=[42]
  ·rw[if_pos c3]
   match t,hH,hkr,hk2,ih',hbd,hN',hml,htl,fin0 with
   | [],_,_,_,_,_,_,_,_,fin0=>
     dsimp only;rw[show (bad||!false)=true by cases bad<;>rfl];exact fin0 ⟨fun h=>by simp at h,fun h=>by simp at h⟩
   | [y],_,_,_,_,_,_,_,_,fin0=>
     dsimp only;rw[show (bad||!false)=true by cases bad<;>rfl];exact fin0 ⟨fun h=>absurd h.1 c2,fun h=>by simp at h⟩
   | [y,z],hH,hkr,hk2,ih',hbd,hN',hml,htl,fin0=>
     have hi:=hN' y (by simp) bad;have hj:=ih' z (by simp) (bad||!(numX y).2);obtain⟨⟨r1,r2,r3⟩,r4⟩:=hbd z (by simp);obtain⟨_,k1,k2⟩:=hk2 y z rfl;have hg:[y,z][0]?=some y:=rfl;have hg1:[y,z][1]?=some z:=rfl;have hl1:[y,z].length=2:=rfl;have hn:bz (numX y).1≤4*y.w.length+4:=getD_bz y.w;have q6:=tb_mulT (numX y).1 (sumX i z).1.t;have q8:4*y.w.length+4≤cX z*(4*y.w.length+4):=Nat.le_mul_of_pos_left _ (cX_pos z);have q7:(sumX i z).1.t.length*bz (numX y).1≤cX z*(4*y.w.length+4):=Nat.mul_le_mul r2 hn;refine FnO.of Tryz.func148 rfl (by kernel_rfl) Tryz.ntmps148 Tryz.results148 rfl rfl fun w0 S0 vs hS hv hKW=>⟨_,fun t v h=> .inl h,?_⟩
     refine wp ?_;refine cO (hi) ?_;refine wp ?_;refine cO (hj) ?_;refine c1 (scaleTF (numX y).1 (sumX i z).1 (by omega) (fun u hu=>by have:=tb_mem hu;omega) (by omega)) ?_;refine wp ?_;dsimp only;rw[show (bad||!((numX y).2&&(sumX i z).2))=(bad||!(numX y).2||!(sumX i z).2)by cases bad<;>cases (numX y).2<;>rfl];exact rp_ret rfl ⟨.cn rfl rfl inferInstance rfl ⟨.inl rfl,.inl rfl,.inl rfl,.inl rfl,trivial⟩,trivial⟩
   | _::_::_::_,_,_,_,_,_,_,_,_,fin0=>
     dsimp only;rw[show (bad||!false)=true by cases bad<;>rfl];exact fin0 ⟨fun h=>absurd h.1 c2,fun h=>by simp at h⟩
  rw[if_neg c3,show (bad||!false)=true by cases bad<;>rfl];exact fin0 ⟨fun h=>c2 h.1,fun h=>c3 h.1⟩
 exact hto
end Go.Proofs.YthdkkpocihkgbaaGreatDoor
