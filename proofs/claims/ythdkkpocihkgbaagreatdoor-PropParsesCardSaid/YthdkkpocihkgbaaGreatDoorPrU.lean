import Derived.Test.YthdkkpocihkgbaaGreatDoorPrT
set_option maxRecDepth 100000
set_option maxHeartbeats 16000000
namespace Go.Proofs.YthdkkpocihkgbaaGreatDoor
open Go.RowKit
attribute [local irreducible] AC Do St
theorem Cw(v:Int):Fn Tryz.prog 196 [.d (.v (.int .i64 v))] [.g (fc ⟨[(v,1)],0⟩)]:=by
 have h1:=nU 1 (by omega) (by omega);refine Fn.of Tryz.func196 rfl (by kernel_rfl) Tryz.ntmps196 Tryz.results196 rfl fun w0 S0=>?_;refine wk ?_;refine c1 h1 ?_;refine wk ?_;exact⟨.cn rfl rfl inferInstance rfl ⟨.inl rfl,.inl rfl,.inr (by rw[show (0:Rat).num.natAbs=0 from rfl,bl];rfl),.inr rfl,trivial⟩,trivial⟩
theorem Ep(q:Rat):Fn Tryz.prog 197 [.g (aN q)] [.g (fc ⟨[],q⟩)]:=by
 refine Fn.of Tryz.func197 rfl (by kernel_rfl) Tryz.ntmps197 Tryz.results197 rfl fun w0 S0=>?_;refine wk ?_;exact⟨.cn rfl rfl inferInstance rfl ⟨.inr rfl,.inl rfl,.inl rfl,.inl rfl,trivial⟩,trivial⟩
mutual
def gL:ST→Prop
 | .mk _ w l=>w.length≤20000∧kQ l
def kQ:List ST→Prop
 | []=>True
 | s::r=>gL s∧kQ r
end
theorem fB(b:Bool)(w:List UInt8)(l:List ST):gL (.mk b w l)=(w.length≤20000∧kQ l):=by rw[gL]
theorem ca:∀ {l:List ST},kQ l→∀ s∈l,gL s
 | [],_,s,h=>nomatch h
 | x::r,h,s,hs=>by
   rw[kQ]at h;rcases List.mem_cons.1 hs with rfl | hs
   ·exact h.1
   ·exact ca h.2 s hs
theorem iZ{s:ST}(h:gL s):s.w.length≤20000:=by obtain⟨b,w,l⟩:=s;rw[fB]at h;exact h.1
noncomputable def pk (i:Int)(hw:List UInt8)(t:List ST):Ex×Bool:=
 if hw=[43]then k8 (t.map (ak i))
 else if hw=[45]then(match t with
  | [x]=>(cy (-1) (ak i x).1,(ak i x).2)
  | [x,y]=>(cH (ak i x).1 (ak i y).1,(ak i x).2&&(ak i y).2)
  | _=>(⟨[],0⟩,false))
 else if hw=[42]then(match t with
  | [n,y]=>(cy (aZ n).1 (ak i y).1,(aZ n).2&&(ak i y).2)
  | _=>(⟨[],0⟩,false))
 else(⟨[],0⟩,false)
theorem yf(i:Int)(w:List UInt8)(l:List ST):ak i (.mk false w l)=pk i (aG (.mk false w l)).1 (aG (.mk false w l)).2:=by
 rw[jy,if_neg (by decide),jY];cases l with
 | nil=>rfl
 | cons h t=>
   rw[List.map_cons,oM];unfold aG;dsimp only;by_cases hb:h.b=true
   ·rw[if_pos hb,if_pos hb];unfold pk;dsimp only
    congr 1
    match t with
    | []=>rfl
    | [x]=>rfl
    | [x,y]=>rfl
    | _::_::_::_=>rfl
   ·rw[if_neg hb,if_neg hb];rfl
theorem my(w:List UInt8)(l:List ST):(aG (.mk false w l)).2=[]∨∃ h,l=h::(aG (.mk false w l)).2:=by
 cases l with
 | nil=>exact .inl rfl
 | cons h t=>
   unfold aG;dsimp only;by_cases hb:h.b=true
   ·rw[if_pos hb];exact .inr ⟨h,rfl⟩
   ·rw[if_neg hb];exact .inl rfl
theorem sD(s:ST):12*cX s≤kX s:=by
 have:=jd s;unfold kX;rw[Nat.mul_comm];exact Nat.mul_le_mul_left _ (by omega)
theorem BH{w:List UInt8}{l t:List ST}(h:t=[]∨∃ h,l=h::t):1+aK t*(4*bI t+9)≤kX (.mk false w l):=by
 have hK:kX (.mk false w l)=(1+aK l)*(4*(w.length+1+bI l)+8):=by unfold kX;rw[aY,bt]
 rcases h with rfl | ⟨h,rfl⟩
 ·rw[bd,hK];have:1*1≤(1+aK l)*(4*(w.length+1+bI l)+8):=Nat.mul_le_mul (by omega) (by omega);omega
 ·rw[hK,aA,aj];have hwp:=jd h;have e1:(1+aK t)*(4*bI t+9)=4*bI t+9+aK t*(4*bI t+9):=by rw[Nat.add_mul,Nat.one_mul]
  have e2:(1+aK t)*(4*bI t+9)≤(1+(cX h+aK t))*(4*(w.length+1+(wX h+bI t))+8):=Nat.mul_le_mul (by omega) (by omega);omega
theorem nr{t:List ST}{j:Nat}(h:j<t.length):aK (t.take j)+cX t[j]≤aK t∧bI (t.take j)≤bI t:=by
 induction t generalizing j with
 | nil=>simp at h
 | cons x r ih=>
   cases j with
   | zero=>rw[List.take_zero,bd,cT,aj,List.getElem_cons_zero];omega
   | succ j=>
     have:=ih (j:=j) (by simpa using h);rw[List.take_succ_cons,aj,aA,aj,aA,List.getElem_cons_succ];omega
noncomputable def fw (i:Int)(t:List ST)(j:Nat):Ex×Bool:=k8 ((t.take j).map (ak i))
theorem qi(i:Int)(t:List ST):fw i t 0=(⟨[],0⟩,true):=rfl
theorem wJ(i:Int)(t:List ST){j:Nat}(h:j<t.length):fw i t (j+1)=(eK (fw i t j).1 (ak i t[j]).1,(fw i t j).2&&(ak i t[j]).2):=by
 unfold fw k8;rw[List.take_succ_eq_append_getElem h,List.map_append,List.foldl_append];rfl
theorem zI(i:Int)(t:List ST){j:Nat}(h:j<t.length):tb (fw i t j).1.t+tb (ak i t[j]).1.t≤1+aK t*(4*bI t+9)∧bz (fw i t j).1.c+bz (ak i t[j]).1.c≤1+aK t*(4*bI t+9):=by
 obtain⟨p1,p2,p3⟩:=kB i _ t[j] (Nat.lt_succ_self _);obtain⟨q1,q2,q3⟩:=nL ((t.take j).map (ak i)) (t.take j) (⟨[],0⟩,true) 0 (bI t) 1 (by simp) (fun k h1 h2=>by rw[List.getElem_map];exact kB i _ _ (Nat.lt_succ_self _)) (by simp[tb]) (by simp) (by rw[show (⟨[],0⟩:Ex).c=0 from rfl,dX];omega) (nr h).2;have h1:=(nr h).1;have hw:=(aO (List.getElem_mem h)).1;have e1:kX t[j]≤cX t[j]*(4*bI t+9):=Nat.mul_le_mul_left _ (by omega);have e2:aK (t.take j)*(4*bI t+9)+cX t[j]*(4*bI t+9)≤aK t*(4*bI t+9):=by rw[←Nat.add_mul];exact Nat.mul_le_mul_right _ h1
 exact⟨Nat.le_trans (Nat.add_le_add q1 p1) (by omega),Nat.le_trans (Nat.add_le_add q3 p3) (by omega)⟩
theorem ue{w:List UInt8}{l:List ST}{h x y:ST}(hl:l=[h,x,y]):kX x+kX y+cX y+cX x≤kX (.mk false w l)∧kX y+cX y*(4*x.w.length+4)≤kX (.mk false w l)∧4*x.w.length+4≤kX (.mk false w l):=by
 subst hl;have hK:kX (.mk false w [h,x,y])=(1+(cX h+(cX x+cX y)))*(4*(w.length+1+(wX h+(wX x+wX y)))+8):=by unfold kX;rw[aY,bt,aA,aA,aA,cT,aj,aj,aj,bd];simp
 have hwp:=jd h;have hx:=jB x;have hxc:=jZ x;have e1:cX y*(4*wX y+9)=kX y+cX y:=Nat.mul_succ ..;have e0:cX x*(4*wX x+9)=kX x+cX x:=Nat.mul_succ ..;have e2:(cX x+cX y)*(4*(wX x+wX y)+9)≤kX (.mk false w [h,x,y]):=by rw[hK];exact Nat.mul_le_mul (by omega) (by omega)
 have e3:(cX x+cX y)*(4*(wX x+wX y)+9)=cX x*(4*(wX x+wX y)+9)+cX y*(4*(wX x+wX y)+9):=by rw[Nat.add_mul]
 have e4:cX x*(4*wX x+9)≤cX x*(4*(wX x+wX y)+9):=Nat.mul_le_mul_left _ (by omega);have e5:cX y*(4*wX y+9)≤cX y*(4*(wX x+wX y)+9):=Nat.mul_le_mul_left _ (by omega);have f1:cX y*(4*wX y+8)+cX y*(4*x.w.length+4)=cX y*(4*wX y+8+(4*x.w.length+4)):=(Nat.mul_add ..).symm;have f2:cX y*(4*wX y+8+(4*x.w.length+4))≤kX (.mk false w [h,x,y]):=by rw[hK];exact Nat.mul_le_mul (by omega) (by omega)
 have f3:1*(4*x.w.length+4)≤kX (.mk false w [h,x,y]):=by rw[hK];exact Nat.mul_le_mul (by omega) (by omega)
 have e6:kX y=cX y*(4*wX y+8):=rfl;exact⟨by omega,by omega,by omega⟩
theorem E1{l m:List UInt8}{r:Bool}(h:decide (l=m)=r):((tx l).toList==(tx m).toList)=r:=by
 rw[cJ,cJ,←h];exact Bool.eq_iff_iff.2 (by simp)
theorem DN{Kw:World→Prop}[KSt Kw][KHas Kw ig](b:Nat)(i:Int)(x:Value):∀ (m:Nat) (s:ST),wX s<m→gL s→kX s≤40000000→∀ (bad:Bool),FnO Tryz.prog 148 Kw (fS b i x bad) [.d (.v (aT b 0)),.g (aq s)] (fun post res=>post=fS b i x (bad||!(ak i s).2)∧res=[.g (fc (ak i s).1)]):=by
 intro m
 induction m with
 | zero=>intro s h;omega
 | succ m ih=>
 intro s hm hsw hk bad;obtain⟨sb,w,l⟩:=s;have hV:∀ bad,FnO Tryz.prog 195 Kw (fS b i x bad) _ _:=fun bad=>⟨(pS b i x bad w).body,fun S w0 vs _=>(pS b i x bad w).run S w0 vs fun _ _=>trivial⟩
 have hF:∀ bad,FnO Tryz.prog 147 Kw (fS b i x bad) _ _:=fun bad=>⟨(pL b i x bad).body,fun S w0 vs _=>(pL b i x bad).run S w0 vs fun _ _=>trivial⟩
 cases sb with
 | true=>
   have hN:=pz (Kw:=Kw) b i x bad (.mk true w l) (iZ hsw);rw[jy,if_pos rfl];unfold lA;rw[bE]at hN ⊢;have hV:=hV bad;cases hv:(ey i w).2 with
   | true=>
     rw[hv]at hV;rw[if_pos rfl,show (bad||!true)=bad by cases bad<;>rfl];refine FnO.of Tryz.func148 rfl (by kernel_rfl) Tryz.ntmps148 Tryz.results148 rfl rfl fun w0 S0 vs hS hv hKW=>⟨_,fun t v h=> .inl h,?_⟩
     refine wp ?_;refine cO (hV) ?_;refine wp ?_;refine c1 (Cw (ey i w).1) ?_;refine wp ?_;exact cq rfl ⟨.cn rfl rfl inferInstance rfl ⟨.inl rfl,.inl rfl,.inl rfl,.inl rfl,trivial⟩,trivial⟩
   | false=>
     rw[hv]at hV;rw[if_neg (by decide)];unfold aZ at hN;dsimp only[ST.w,ST.b,ST.mk]at hN;rw[Bool.true_and]at hN;refine FnO.of Tryz.func148 rfl (by kernel_rfl) Tryz.ntmps148 Tryz.results148 rfl rfl fun w0 S0 vs hS hv hKW=>⟨_,fun t v h=> .inl h,?_⟩
     refine wp ?_;refine cO (hV) ?_;refine wp ?_;refine cO (hN) ?_;refine c1 (Ep ((aX w).getD 0)) ?_;refine wp ?_;exact cq rfl ⟨.cn rfl rfl inferInstance rfl ⟨.inl rfl,.inl rfl,.inl rfl,.inl rfl,trivial⟩,trivial⟩
 | false=>
 have hH:=mH (.mk false w l);have hin:=my w l;have hkr:=BH (w:=w) hin;rw[yf];rw[fB]at hsw;rw[bt]at hm;have hmem:∀ y∈(aG (.mk false w l)).2,y∈l:=fun y hy=>by
  rcases hin with h | ⟨h,hh⟩
  ·rw[h]at hy;cases hy
  ·rw[hh];exact List.mem_cons_of_mem _ hy
 have hk2:∀ y z,(aG (.mk false w l)).2=[y,z]→kX y+kX z+cX z+cX y≤kX (.mk false w l)∧kX z+cX z*(4*y.w.length+4)≤kX (.mk false w l)∧4*y.w.length+4≤kX (.mk false w l):=fun y z e=>by
  rcases hin with h | ⟨h,hh⟩
  ·rw[h]at e;cases e
  ·rw[e]at hh;exact ue hh
 rw[bE]at hH ⊢;generalize (aG (.mk false w l)).1=hw at hH hin hkr hmem hk2 ⊢;generalize (aG (.mk false w l)).2=t at hH hin hkr hmem hk2 ⊢;clear hin;have ih':∀ y∈t,∀bad,FnO Tryz.prog 148 Kw (fS b i x bad) [.d (.v (aT b 0)),.g (aq y)] (fun post res=>post=fS b i x (bad||!(ak i y).2)∧res=[.g (fc (ak i y).1)]):=fun y hy bad=>ih y (by have:=(aO (hmem y hy)).1;omega) (ca hsw.2 y (hmem y hy)) (Nat.le_trans (nX (hmem y hy)) hk) bad;have hbd:∀ y∈t,exB (cX y) (kX y) (ak i y).1∧kX y≤kX (.mk false w l):=fun y hy=>⟨kB i _ y (Nat.lt_succ_self _),nX (hmem y hy)⟩
 have hN':∀ y∈t,∀bad,FnO Tryz.prog 92 Kw (fS b i x bad) _ _:=fun y hy bad=>pz (Kw:=Kw) b i x bad y (iZ (ca hsw.2 y (hmem y hy)));have hml:(t.map aq).length=t.length:=List.length_map ..;have htl:t.length≤40000000:=by
  have h1:=cj t;have h2:aK t*1≤aK t*(4*bI t+9):=Nat.mul_le_mul_left _ (by omega);omega
 have hto:FnO Tryz.prog 148 Kw (fS b i x bad) [.d (.v (aT b 0)),.g [.v (.bool false),.v (.string (tx w)),.l (l.map aq)]] (fun post res=>post=fS b i x (bad||!(pk i hw t).2)∧res=[.g (fc (pk i hw t).1)]):=by
  generalize hKK:kX (.mk false w l)=KK at*;clear hKK ih hmem;unfold pk;by_cases c1':hw=[43]
  ·rw[if_pos c1'];refine FnO.of Tryz.func148 rfl (by kernel_rfl) Tryz.ntmps148 Tryz.results148 rfl rfl fun w0 S0 vs hS hv hKW=>⟨_,fun t v h=> .inl h,?_⟩
   refine wp ?_;refine AC.sN 9 rfl ?_;have e0:([(0:Nat)].map fun _=>(fc ⟨[],0⟩).map AV.d)=[[.d (.l []),.d (.v (.bool false)),.d (.l []),.d (.l [])]]:=by
    unfold fc;rw[tp];rfl
   have e0:(fc ⟨[],0⟩).map AV.d=[.d (.l []),.d (.v (.bool false)),.d (.l []),.d (.l [])]:=by simpa using e0
   refine AC.loop (X:=Nat) (fun j=>⟨[(0,.d (.v (aT b 0))),(4,.p 4 0),(9,.p 9 0),(37,.d (.l (t.map aq))),(38,.d (.v (.int .i64 (t.length:Int)))),(39,.d (.v (.int .i64 (j:Int))))],[(4,.box 155 [.d .n,.d (.v (.bool false)),.d .n,.d .n]),(9,.box 155 ((fc (fw i t j).1).map .d)),(205,pb b i x (bad||!(fw i t j).2))]⟩) (fun j=>j≤t.length) (fun j=>t.length-j) 0 (Nat.zero_le _) ⟨rfl,rfl,rfl,rfl,rfl,rfl,trivial⟩ ⟨rfl,by dsimp only;rw[qi,e0];rfl,by dsimp only;rw[qi,show (bad||!true)=bad by cases bad<;>rfl];rfl,trivial⟩ ?_;intro j hj;dsimp only at hj ⊢;refine wp ?_;refine s1 (fun g1=>?_) (fun g1=>?_)
   ·have hj1:j<t.length:=by omega
    have hg:t[j]?=some t[j]:=List.getElem?_eq_getElem hj1;have hps:=wJ i t hj1;obtain⟨q1,q2⟩:=zI i t hj1;have hi:=ih' t[j] (List.getElem_mem hj1) (bad||!(fw i t j).2);generalize t[j]=y at hg hps q1 q2 hi;refine wp ?_;refine cO (hi) ?_;refine c1 (Ap (fw i t j).1 (ak i y).1 (by omega) (by omega)) ?_;refine wp ?_;exact⟨j+1,hj1,by omega,⟨rfl,rfl,rfl,rfl,rfl,rfl,trivial⟩,⟨rfl,by dsimp only;rw[hps];rfl,by dsimp only;rw[hps,show (bad||!((fw i t j).2&&(ak i y).2))=(bad||!(fw i t j).2||!(ak i y).2)by cases bad<;>cases (fw i t j).2<;>rfl];rfl,trivial⟩⟩
   ·obtain rfl:j=t.length:=by omega
    have he:fw i t t.length=k8 (t.map (ak i)):=by unfold fw;rw[List.take_length]
    rw[he];refine wp ?_;exact cq rfl ⟨.cn rfl rfl inferInstance rfl ⟨.inl rfl,.inl rfl,.inl rfl,.inl rfl,trivial⟩,trivial⟩
  rw[if_neg c1'];have fin0:∀ (hne:¬ (hw=[45]∧(t.length=1∨t.length=2))∧¬ (hw=[42]∧t.length=2)),FnO Tryz.prog 148 Kw (fS b i x bad) [.d (.v (aT b 0)),.g [.v (.bool false),.v (.string (tx w)),.l (l.map aq)]] (fun post res=>post=fS b i x true∧res=[.g (fc ⟨[],0⟩)]):=fun⟨n1,n2⟩=>by
   by_cases d1:hw=[45]
   ·have m1:¬ t.length=1:=fun h=>n1 ⟨d1,.inl h⟩;have m2:¬ t.length=2:=fun h=>n1 ⟨d1,.inr h⟩;have d2:hw≠[42]:=fun h=>by rw[h]at d1;cases d1
    refine FnO.of Tryz.func148 rfl (by kernel_rfl) Tryz.ntmps148 Tryz.results148 rfl rfl fun w0 S0 vs hS hv hKW=>⟨_,fun t v h=> .inl h,?_⟩
    refine wp ?_;refine cO (hF bad) ?_;refine wp ?_;exact cq rfl ⟨.cn rfl rfl inferInstance rfl ⟨.inl rfl,.inl rfl,.inl rfl,.inl rfl,trivial⟩,trivial⟩
   ·by_cases d2:hw=[42]
    ·have m2:¬ t.length=2:=fun h=>n2 ⟨d2,h⟩;refine FnO.of Tryz.func148 rfl (by kernel_rfl) Tryz.ntmps148 Tryz.results148 rfl rfl fun w0 S0 vs hS hv hKW=>⟨_,fun t v h=> .inl h,?_⟩
     refine wp ?_;refine cO (hF bad) ?_;refine wp ?_;exact cq rfl ⟨.cn rfl rfl inferInstance rfl ⟨.inl rfl,.inl rfl,.inl rfl,.inl rfl,trivial⟩,trivial⟩
    ·refine FnO.of Tryz.func148 rfl (by kernel_rfl) Tryz.ntmps148 Tryz.results148 rfl rfl fun w0 S0 vs hS hv hKW=>⟨_,fun t v h=> .inl h,?_⟩
     refine wp ?_;refine cO (hF bad) ?_;refine wp ?_;exact cq rfl ⟨.cn rfl rfl inferInstance rfl ⟨.inl rfl,.inl rfl,.inl rfl,.inl rfl,trivial⟩,trivial⟩
  by_cases c2:hw=[45]
  ·rw[if_pos c2];have d3:hw≠[42]:=fun h=>by rw[h]at c2;cases c2
   match t,hH,hkr,hk2,ih',hbd,hN',hml,htl,fin0 with
   | [],_,_,_,_,_,_,_,_,fin0=>
     rw[show (bad||!false)=true by cases bad<;>rfl];exact fin0 ⟨fun h=>by simp at h,fun h=>by simp at h⟩
   | [y],hH,hkr,hk2,ih',hbd,hN',hml,htl,fin0=>
     have hi:=ih' y (by simp) bad;obtain⟨⟨q1,q2,q3⟩,q4⟩:=hbd y (by simp);have q5:=sD y;have hg:[y][0]?=some y:=rfl;have hl1:[y].length=1:=rfl;have q6:=jx (-1) (ak i y).1.t;rw[gK]at q6;refine FnO.of Tryz.func148 rfl (by kernel_rfl) Tryz.ntmps148 Tryz.results148 rfl rfl fun w0 S0 vs hS hv hKW=>⟨_,fun t v h=> .inl h,?_⟩
     refine wp ?_;refine c1 (nU (-1) (by omega) (by omega)) ?_;refine wp ?_;refine cO (hi) ?_;refine c1 (rm (-1) (ak i y).1 (by omega) (fun u hu=>by have:=mc hu;rw[gK];omega) (by rw[gK];omega)) ?_;refine wp ?_;exact cq rfl ⟨.cn rfl rfl inferInstance rfl ⟨.inl rfl,.inl rfl,.inl rfl,.inl rfl,trivial⟩,trivial⟩
   | [y,z],hH,hkr,hk2,ih',hbd,hN',hml,htl,fin0=>
     have hi:=ih' y (by simp) bad;have hj:=ih' z (by simp) (bad||!(ak i y).2);obtain⟨⟨q1,q2,q3⟩,q4⟩:=hbd y (by simp);obtain⟨⟨r1,r2,r3⟩,r4⟩:=hbd z (by simp);obtain⟨k1,_,_⟩:=hk2 y z rfl;have hg:[y,z][0]?=some y:=rfl;have hg1:[y,z][1]?=some z:=rfl;have hl1:[y,z].length=2:=rfl;have q6:=jx (-1) (ak i z).1.t;obtain⟨s1',s2',s3'⟩:=iS (-1) (ak i z).1;rw[gK]at q6 s1' s3';have q5:=sD z;refine FnO.of Tryz.func148 rfl (by kernel_rfl) Tryz.ntmps148 Tryz.results148 rfl rfl fun w0 S0 vs hS hv hKW=>⟨_,fun t v h=> .inl h,?_⟩
     refine wp ?_;refine cO (hi) ?_;refine wp ?_;refine cO (hj) ?_;refine c1 (wE (ak i y).1 (ak i z).1 (by omega) (fun u hu=>by have:=mc hu;omega) (by omega) (by omega) (by omega)) ?_;refine wp ?_;dsimp only;rw[show (bad||!((ak i y).2&&(ak i z).2))=(bad||!(ak i y).2||!(ak i z).2)by cases bad<;>cases (ak i y).2<;>rfl];exact cq rfl ⟨.cn rfl rfl inferInstance rfl ⟨.inl rfl,.inl rfl,.inl rfl,.inl rfl,trivial⟩,trivial⟩
   | _::_::_::_,_,_,_,_,_,_,_,_,fin0=>
     dsimp only;rw[show (bad||!false)=true by cases bad<;>rfl];exact fin0 ⟨fun h=>by simp at h,fun h=>by simp at h⟩
  rw[if_neg c2];by_cases c3:hw=[42]
  ·rw[if_pos c3]
   match t,hH,hkr,hk2,ih',hbd,hN',hml,htl,fin0 with
   | [],_,_,_,_,_,_,_,_,fin0=>
     dsimp only;rw[show (bad||!false)=true by cases bad<;>rfl];exact fin0 ⟨fun h=>by simp at h,fun h=>by simp at h⟩
   | [y],_,_,_,_,_,_,_,_,fin0=>
     dsimp only;rw[show (bad||!false)=true by cases bad<;>rfl];exact fin0 ⟨fun h=>absurd h.1 c2,fun h=>by simp at h⟩
   | [y,z],hH,hkr,hk2,ih',hbd,hN',hml,htl,fin0=>
     have hi:=hN' y (by simp) bad;have hj:=ih' z (by simp) (bad||!(aZ y).2);obtain⟨⟨r1,r2,r3⟩,r4⟩:=hbd z (by simp);obtain⟨_,k1,k2⟩:=hk2 y z rfl;have hg:[y,z][0]?=some y:=rfl;have hg1:[y,z][1]?=some z:=rfl;have hl1:[y,z].length=2:=rfl;have hn:bz (aZ y).1≤4*y.w.length+4:=dO y.w;have q6:=jx (aZ y).1 (ak i z).1.t;have q8:4*y.w.length+4≤cX z*(4*y.w.length+4):=Nat.le_mul_of_pos_left _ (jZ z);have q7:(ak i z).1.t.length*bz (aZ y).1≤cX z*(4*y.w.length+4):=Nat.mul_le_mul r2 hn;refine FnO.of Tryz.func148 rfl (by kernel_rfl) Tryz.ntmps148 Tryz.results148 rfl rfl fun w0 S0 vs hS hv hKW=>⟨_,fun t v h=> .inl h,?_⟩
     refine wp ?_;refine cO (hi) ?_;refine wp ?_;refine cO (hj) ?_;refine c1 (rm (aZ y).1 (ak i z).1 (by omega) (fun u hu=>by have:=mc hu;omega) (by omega)) ?_;refine wp ?_;dsimp only;rw[show (bad||!((aZ y).2&&(ak i z).2))=(bad||!(aZ y).2||!(ak i z).2)by cases bad<;>cases (aZ y).2<;>rfl];exact cq rfl ⟨.cn rfl rfl inferInstance rfl ⟨.inl rfl,.inl rfl,.inl rfl,.inl rfl,trivial⟩,trivial⟩
   | _::_::_::_,_,_,_,_,_,_,_,_,fin0=>
     dsimp only;rw[show (bad||!false)=true by cases bad<;>rfl];exact fin0 ⟨fun h=>absurd h.1 c2,fun h=>by simp at h⟩
  rw[if_neg c3,show (bad||!false)=true by cases bad<;>rfl];exact fin0 ⟨fun h=>c2 h.1,fun h=>c3 h.1⟩
 exact hto
