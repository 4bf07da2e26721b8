import Derived.Test.YtbbpecfapohlaaaGreatDoorSmR
namespace Go.Proofs.YtbbpecfapohlaaaGreatDoor
open Go.RowKit
attribute [local irreducible] AC Do St
theorem cXs_apS:∀ a b:List ST,cXs (a++b)=cXs a+cXs b
 | [],b=>by rw[cXs_nil];simp
 | s::a,b=>by rw[List.cons_append,cXs_cons,cXs_cons,cXs_apS a b];omega
theorem wXs_apS:∀ a b:List ST,wXs (a++b)=wXs a+wXs b
 | [],b=>by rw[wXs_nil];simp
 | s::a,b=>by rw[List.cons_append,wXs_cons,wXs_cons,wXs_apS a b];omega
theorem Fit.wd1{w:List UInt8}(h1:w.length≤20)(h2:(!w.isEmpty&&w.all plainB)=true):Fit (wdA w) 1 21 0:=by
 simp only[Bool.and_eq_true,Bool.not_eq_true',List.isEmpty_eq_false_iff]at h2
 exact(Fit.word h2.1 h2.2).up (Nat.le_refl _) (by omega) (Nat.le_refl _)
theorem trm_fit{k:Nat}{t:Tm}(h0:0≤t.1)(h1:t.1≤9223372036854775807)(hb:Bd k t.2):Fit (trmT t) 9 (2*k+60) 3:=by
 have f1:=numT_fit hb
 have f2:Fit (nmA 120 t.1) 1 23 0:=Fit.nm (by decide) h0 h1
 have f3:Fit (wdA [42]) 1 21 0:=Fit.wd1 (by decide) (by decide)
 unfold trmT
 split
 ·exact f2.up (by omega) (by omega) (by omega)
 ·refine Fit.lst (h:=2) (fun x hx=>?_) ?_ ?_
  ·simp only[List.mem_cons,List.not_mem_nil,or_false]at hx
   rcases hx with rfl | rfl | rfl
   ·exact f3.three (by omega)
   ·exact f1.three (by omega)
   ·exact f2.three (by omega)
  ·rw[cXs_cons,cXs_cons,cXs_cons,cXs_nil]
   have:=f1.c
   have:=f2.c
   have:=f3.c
   omega
  ·rw[wXs_cons,wXs_cons,wXs_cons,wXs_nil]
   have:=f1.w
   have:=f2.w
   have:=f3.w
   omega
theorem sid_fit{l:List Tm}(hl:l.length≤12)(hv:∀ t∈l,0≤t.1∧t.1≤9223372036854775807∧Bd 6682 t.2):Fit (sidT l) 118 174600 4:=by
 have h1:∀ t∈l,Fit (trmT t) 9 13424 3:=fun t ht=>(trm_fit (hv t ht).1 (hv t ht).2.1 (hv t ht).2.2).up (by omega) (by omega) (by omega)
 unfold sidT
 split
 ·exact(h1 _ (by simp)).up (by omega) (by omega) (by omega)
 ·have f3:Fit (wdA [43]) 1 21 0:=Fit.wd1 (by decide) (by decide)
  have hal:∀ s∈wdA [43]::l.map trmT,Fit s 9 13424 3:=fun s hs=>by
   rcases List.mem_cons.1 hs with rfl | hs
   ·exact f3.up (by omega) (by omega) (by omega)
   ·obtain⟨t,ht,rfl⟩:=List.mem_map.1 hs
    exact h1 t ht
  have hlen:(wdA [43]::l.map trmT).length≤13:=by simp;omega
  obtain⟨n,hn⟩:∃ n,(wdA [43]::l.map trmT).length=n:=⟨_,rfl⟩
  have hB:=Fit.rowB hal
  rw[hn]at hB hlen
  have e1:n*9+1≤118:=by omega
  have e2:n*13424+1≤174600:=by omega
  exact hB.up e1 e2 (Nat.le_refl _)
theorem atm_fit{r:Int}{a:At}(i:Nat)(hi:i≤1000000)(ho:OkAt a)(hop:okOp a.op)(hin:insA r a)(hr:r≤400):Fit (atmT i a) 131 190000 6:=by
 have f1:=sid_fit ho.sm.n fun t ht=>⟨(hin t ht).1,by have:=(hin t ht).2;omega,ho.sm.t t ht⟩
 have f2:=numT_fit ho.sm.c.neg
 have f3:Fit (wdA (sgnT a.op)) 1 21 0:=by
  rcases okOp_cases hop with h | h | h<;>rw[h]<;>exact Fit.wd1 (by decide) (by decide)
 have f4:Fit (bodT a) 126 188000 5:=by
  unfold bodT
  refine Fit.lst (h:=4) (fun x hx=>?_) ?_ ?_
  ·simp only[List.mem_cons,List.not_mem_nil,or_false]at hx
   rcases hx with rfl | rfl | rfl
   ·exact f3.three (by omega)
   ·exact f1.three (by omega)
   ·exact f2.three (by omega)
  ·rw[cXs_cons,cXs_cons,cXs_cons,cXs_nil]
   have:=f1.c
   have:=f2.c
   have:=f3.c
   omega
  ·rw[wXs_cons,wXs_cons,wXs_cons,wXs_nil]
   have:=f1.w
   have:=f2.w
   have:=f3.w
   omega
 have f5:Fit (nmA 97 (i:Int)) 1 23 0:=Fit.nm (by decide) (by omega) (by omega)
 have f6:Fit (wdA defW) 1 21 0:=Fit.wd1 (by decide) (by decide)
 have f7:Fit (wdA boolW) 1 21 0:=Fit.wd1 (by decide) (by decide)
 have f8:Fit (lstT []) 1 1 1:=Fit.lst (h:=0) (fun x hx=>by cases hx) (by rw[cXs_nil];omega) (by rw[wXs_nil];omega)
 unfold atmT
 refine Fit.lst (h:=5) (fun x hx=>?_) ?_ ?_
 ·simp only[List.mem_cons,List.not_mem_nil,or_false]at hx
  rcases hx with rfl | rfl | rfl | rfl | rfl
  ·exact f6.three (by omega)
  ·exact f5.three (by omega)
  ·exact f8.three (by omega)
  ·exact f7.three (by omega)
  ·exact f4.three (by omega)
 ·rw[cXs_cons,cXs_cons,cXs_cons,cXs_cons,cXs_cons,cXs_nil]
  have:=f4.c
  have:=f5.c
  have:=f6.c
  have:=f7.c
  have:=f8.c
  omega
 ·rw[wXs_cons,wXs_cons,wXs_cons,wXs_cons,wXs_cons,wXs_nil]
  have:=f4.w
  have:=f5.w
  have:=f6.w
  have:=f7.w
  have:=f8.w
  omega
theorem litT_fit{b l:Int}(h:okLi l)(hb:0≤b):Fit (litT b l) 3 50 1:=by
 obtain⟨z1,z2⟩:=szI_ok h
 have hX:Fit (if szI l-1<b then nmA 112 (szI l-1)else nmA 97 (szI l-1-b)) 1 23 0:=by
  split
  ·exact Fit.nm (by decide) (by omega) (by omega)
  ·exact Fit.nm (by decide) (by omega) (by omega)
 have f3:Fit (wdA notW) 1 21 0:=Fit.wd1 (by decide) (by decide)
 unfold litT
 split
 ·refine Fit.lst (h:=0) (fun x hx=>?_) ?_ ?_
  ·simp only[List.mem_cons,List.not_mem_nil,or_false]at hx
   rcases hx with rfl | rfl
   ·exact f3.three (by omega)
   ·exact hX.three (by omega)
  ·rw[cXs_cons,cXs_cons,cXs_nil]
   have:=f3.c
   have:=hX.c
   omega
  ·rw[wXs_cons,wXs_cons,wXs_nil]
   have:=f3.w
   have:=hX.w
   omega
 ·exact hX.up (by omega) (by omega) (by omega)
theorem ass_fit{b:Int}{c:List Int}(hb:0≤b)(hc:c.length≤70)(h:∀ l∈c,okLi l):Fit (assT b c) 216 4000 3:=by
 have f1:Fit (clT b c) 214 3600 2:=by
  unfold clT
  split
  ·have f3:Fit (wdA faW) 1 21 0:=Fit.wd1 (by decide) (by decide)
   exact f3.up (by omega) (by omega) (by omega)
  ·exact(litT_fit (h _ (by simp)) hb).up (by omega) (by omega) (by omega)
  ·have f3:Fit (wdA orW) 1 21 0:=Fit.wd1 (by decide) (by decide)
   have hal:∀ s∈wdA orW::c.map (litT b),Fit s 3 50 1:=fun s hs=>by
    rcases List.mem_cons.1 hs with rfl | hs
    ·exact f3.up (by omega) (by omega) (by omega)
    ·obtain⟨t,ht,rfl⟩:=List.mem_map.1 hs
     exact litT_fit (h t ht) hb
   have hlen:(wdA orW::c.map (litT b)).length≤71:=by simp;omega
   obtain⟨n,hn⟩:∃ n,(wdA orW::c.map (litT b)).length=n:=⟨_,rfl⟩
   have hB:=Fit.rowB hal
   rw[hn]at hB hlen
   have e1:n*3+1≤214:=by omega
   have e2:n*50+1≤3600:=by omega
   exact hB.up e1 e2 (Nat.le_refl _)
 have f3:Fit (wdA asW) 1 21 0:=Fit.wd1 (by decide) (by decide)
 unfold assT
 refine Fit.lst (h:=2) (fun x hx=>?_) ?_ ?_
 ·simp only[List.mem_cons,List.not_mem_nil,or_false]at hx
  rcases hx with rfl | rfl
  ·exact f3.three (by omega)
  ·exact f1.three (by omega)
 ·rw[cXs_cons,cXs_cons,cXs_nil]
  have:=f3.c
  have:=f1.c
  omega
 ·rw[wXs_cons,wXs_cons,wXs_nil]
  have:=f3.w
  have:=f1.w
  omega
theorem dec_fit{c:UInt8}(hc:plainB c=true)(i:Nat)(hi:i≤1000000){w:List UInt8}(hw:Fit (wdA w) 1 21 0):Fit (lstT [wdA decW,nmA c (i:Int),wdA w]) 4 70 1:=by
 have f3:Fit (wdA decW) 1 21 0:=Fit.wd1 (by decide) (by decide)
 have f5:Fit (nmA c (i:Int)) 1 23 0:=Fit.nm hc (by omega) (by omega)
 refine Fit.lst (h:=0) (fun x hx=>?_) ?_ ?_
 ·simp only[List.mem_cons,List.not_mem_nil,or_false]at hx
  rcases hx with rfl | rfl | rfl
  ·exact f3.three (by omega)
  ·exact f5.three (by omega)
  ·exact hw.three (by omega)
 ·rw[cXs_cons,cXs_cons,cXs_cons,cXs_nil]
  have:=f3.c
  have:=f5.c
  have:=hw.c
  omega
 ·rw[wXs_cons,wXs_cons,wXs_cons,wXs_nil]
  have:=f3.w
  have:=f5.w
  have:=hw.w
  omega
theorem row_fit{p:SP}(hp:OkSP p)(hl:Loose p):(∀s∈rowT p,nfX s∧wdX s=true∧htX s≤6)∧cXs (rowT p)≤30000∧wXs (rowT p)≤9000000:=by
 have hg:=hl.g
 unfold greatP at hg
 have hr0:=hl.r
 have hb0:=hl.b
 have han:=hp.an
 have hcn:=hp.cn
 have a0:∀ s∈rl0,Fit s 3 50 1:=fun s hs=>by
  unfold rl0 at hs
  rw[List.mem_singleton.1 hs]
  have f3:Fit (wdA slW) 1 21 0:=Fit.wd1 (by decide) (by decide)
  have f4:Fit (wdA qfW) 1 21 0:=Fit.wd1 (by decide) (by decide)
  refine Fit.lst (h:=0) (fun x hx=>?_) ?_ ?_
  ·simp only[List.mem_cons,List.not_mem_nil,or_false]at hx
   rcases hx with rfl | rfl
   ·exact f3.three (by omega)
   ·exact f4.three (by omega)
  ·rw[cXs_cons,cXs_cons,cXs_nil]
   have:=f3.c
   have:=f4.c
   omega
  ·rw[wXs_cons,wXs_cons,wXs_nil]
   have:=f3.w
   have:=f4.w
   omega
 have a1:∀ s∈(List.range p.r.toNat).map reaT,Fit s 4 70 1:=fun s hs=>by
  obtain⟨i,hi,rfl⟩:=List.mem_map.1 hs
  rw[List.mem_range]at hi
  exact dec_fit (by decide) i (by omega) (Fit.wd1 (by decide) (by decide))
 have a2:∀ s∈(List.range p.b.toNat).map booT,Fit s 4 70 1:=fun s hs=>by
  obtain⟨i,hi,rfl⟩:=List.mem_map.1 hs
  rw[List.mem_range]at hi
  exact dec_fit (by decide) i (by omega) (Fit.wd1 (by decide) (by decide))
 have a3:∀ s∈(p.a.take p.a.length).mapIdx atmT,Fit s 131 190000 6:=fun s hs=>by
  rw[List.take_length]at hs
  obtain⟨i,hi,rfl⟩:=List.mem_mapIdx.1 hs
  have hm:=List.getElem_mem hi
  exact atm_fit i (by omega) (hp.a _ hm) (hl.a _ hm).1 (hl.a _ hm).2 (by omega)
 have a4:∀ s∈(p.c.take p.c.length).map (assT p.b),Fit s 216 4000 3:=fun s hs=>by
  rw[List.take_length]at hs
  obtain⟨c,hc,rfl⟩:=List.mem_map.1 hs
  exact ass_fit hb0 (hp.cl c hc).1 fun l h=>(hl.c c hc l h).1
 have a5:Fit (lstT [wdA csW]) 2 30 1:=by
  have f3:Fit (wdA csW) 1 21 0:=Fit.wd1 (by decide) (by decide)
  refine Fit.lst (h:=0) (fun x hx=>?_) ?_ ?_
  ·simp only[List.mem_cons,List.not_mem_nil,or_false]at hx
   subst hx
   exact f3.three (by omega)
  ·rw[cXs_cons,cXs_nil]
   have:=f3.c
   omega
  ·rw[wXs_cons,wXs_nil]
   have:=f3.w
   omega
 have e:rowT p=(((rl0++(List.range p.r.toNat).map reaT)++(List.range p.b.toNat).map booT)++(p.a.take p.a.length).mapIdx atmT)++(p.c.take p.c.length).map (assT p.b)++[lstT [wdA csW]]:=rfl
 have n1:((List.range p.r.toNat).map reaT).length≤400:=by rw[List.length_map,List.length_range];omega
 have n2:((List.range p.b.toNat).map booT).length≤1000:=by rw[List.length_map,List.length_range];omega
 have n3:((p.a.take p.a.length).mapIdx atmT).length≤40:=by rw[List.length_mapIdx,List.length_take];omega
 have n4:((p.c.take p.c.length).map (assT p.b)).length≤60:=by rw[List.length_map,List.length_take];omega
 have n0:rl0.length=1:=rfl
 rw[e]
 generalize (List.range p.r.toNat).map reaT=l1 at a1 n1
 generalize (List.range p.b.toNat).map booT=l2 at a2 n2
 generalize (p.a.take p.a.length).mapIdx atmT=l3 at a3 n3
 generalize (p.c.take p.c.length).map (assT p.b)=l4 at a4 n4
 generalize rl0=l0 at a0 n0
 generalize lstT [wdA csW]=s5 at a5
 refine⟨fun s hs=>?_,?_,?_⟩
 ·simp only[List.mem_append,List.mem_singleton]at hs
  rcases hs with (((((hs | hs) | hs) | hs) | hs) | hs)
  ·exact(a0 s hs).three (by omega)
  ·exact(a1 s hs).three (by omega)
  ·exact(a2 s hs).three (by omega)
  ·exact(a3 s hs).three (by omega)
  ·exact(a4 s hs).three (by omega)
  ·subst hs;exact a5.three (by omega)
 ·rw[cXs_apS,cXs_apS,cXs_apS,cXs_apS,cXs_apS,cXs_cons,cXs_nil]
  have b0:=cXs_le fun x hx=>(a0 x hx).c
  have b1:=cXs_le fun x hx=>(a1 x hx).c
  have b2:=cXs_le fun x hx=>(a2 x hx).c
  have b3:=cXs_le fun x hx=>(a3 x hx).c
  have b4:=cXs_le fun x hx=>(a4 x hx).c
  have b5:=a5.c
  omega
 ·rw[wXs_apS,wXs_apS,wXs_apS,wXs_apS,wXs_apS,wXs_cons,wXs_nil]
  have b0:=wXs_le fun x hx=>(a0 x hx).w
  have b1:=wXs_le fun x hx=>(a1 x hx).w
  have b2:=wXs_le fun x hx=>(a2 x hx).w
  have b3:=wXs_le fun x hx=>(a3 x hx).w
  have b4:=wXs_le fun x hx=>(a4 x hx).w
  have b5:=a5.w
  omega
noncomputable def prS (p:SP):List DV:=if chkP p≠0 then [.d (.v (.string (tx []))),.d (.v (.int .i64 (chkP p)))]else if 1000000<(allX (rowT p)).length then [.d (.v (.string (tx []))),.d (.v (.int .i64 2))]else [.d (.v (.string (tx (allX (rowT p))))),.d (.v (.int .i64 0))]
section
variable {Kw:World→Prop}[KSt Kw][KHas Kw Tab][KHas Kw MaxL]
set_option maxRecDepth 100000 in
set_option maxHeartbeats 8000000 in
theorem smtPrint(p:SP)(hp:OkSP p):FnK Tryz.prog 51 Kw [.g (enSP p)] (prS p):=by
 have hch:FnK Tryz.prog 47 Kw [.g (enSP p)] [.d (.v (.int .i64 (chkP p)))]:=(smtCheck p hp).low
 unfold prS
 by_cases h0:chkP p=0
 ·rw[if_neg (by simp[h0])]
  rw[h0]at hch
  have hl:=chk_loose hp h0
  obtain⟨r1,r2,r3⟩:=row_fit hp hl
  have hchx:chX (rowT p)=0:=fit_chX r1 (by omega)
  have hlen:=allX_w (rowT p)
  have hcl:=cXs_len (rowT p)
  have hpr:=sexpPrint (rowT p) (by omega) (okXs_w (by omega)) (by omega)
  unfold prX at hpr
  rw[if_pos hchx]at hpr
  have hro:=smtRows (Kw:=Kw) p hp hl
  have han:=hp.an
  have hlong:=fun q (h:Bd 6682 q)=>smtLong (Kv:=Kw) q h
  have hok:=hp.a
  have hla:(p.a.map enA).length=p.a.length:=List.length_map ..
  have hml:((rowT p).map enX).length=(rowT p).length:=List.length_map ..
  clear hl hp r1 r2 r3 hchx
  generalize rowT p=T at*
  generalize allX T=X at*
  refine FnK.of Tryz.func51 rfl (by kernel_rfl) Tryz.ntmps51 Tryz.results51 rfl fun w0 S0 hK0=>?_
  refine wa ?_
  refine AC.loop (X:=Nat) (fun i=>⟨[(1,.p 1 0),(17,.d (.l (p.a.map enA))),(18,.d (.v (.int .i64 (p.a.length:Int)))),(19,.d (.v (.int .i64 (i:Int))))],[(1,.box 29 ((enSP p).map .d))]⟩) (fun i=>i≤p.a.length) (fun i=>p.a.length-i) 0 (Nat.zero_le _) ⟨rfl,rfl,rfl,rfl,trivial⟩ ⟨rfl,trivial⟩ ?_
  intro i hi
  dsimp only at hi ⊢
  by_cases h1:i<p.a.length
  ·have hx:=List.getElem?_eq_getElem h1
   have hm:=List.getElem_mem h1
   have ho:=hok _ hm
   generalize p.a[i]=x at hx hm ho
   have hlx:(x.e.t.map enT).length=x.e.t.length:=List.length_map ..
   have hn:=ho.sm.n
   have hb:=ho.sm.t
   have hc:=hlong _ ho.sm.c
   clear hro hpr hch
   refine wa ?_
   clear hc
   refine AC.loop (X:=Nat) (fun j=>⟨[(1,.p 1 0),(17,.d (.l (p.a.map enA))),(18,.d (.v (.int .i64 (p.a.length:Int)))),(19,.d (.v (.int .i64 (i:Int)))),(29,.d (.l (x.e.t.map enT))),(30,.d (.v (.int .i64 (x.e.t.length:Int)))),(31,.d (.v (.int .i64 (j:Int))))],[(1,.box 29 ((enSP p).map .d))]⟩) (fun j=>j≤x.e.t.length) (fun j=>x.e.t.length-j) 0 (Nat.zero_le _) ⟨rfl,rfl,rfl,rfl,rfl,rfl,rfl,trivial⟩ ⟨rfl,trivial⟩ ?_
   intro j hj
   dsimp only at hj ⊢
   by_cases h2:j<x.e.t.length
   ·have gx:=List.getElem?_eq_getElem h2
    have gb:=hb _ (List.getElem_mem h2)
    generalize x.e.t[j]=t at gx gb
    obtain⟨v,q⟩:=t
    have gl:=hlong q gb
    clear hlong
    refine wa ?_
    exact⟨j+1,h2,by omega,⟨rfl,rfl,rfl,rfl,rfl,rfl,rfl,trivial⟩,⟨rfl,trivial⟩⟩
   ·refine wa ?_
    exact⟨i+1,h1,by omega,⟨rfl,rfl,rfl,rfl,trivial⟩,⟨rfl,trivial⟩⟩
  ·clear hlong hch
   by_cases h3:1000000<X.length
   ·rw[if_pos h3]
    refine wa ?_
    exact⟨.d rfl (.inl rfl),.d rfl (.inl rfl),trivial⟩
   ·rw[if_neg h3]
    refine wa ?_
    exact⟨.d rfl (.inl rfl),.d rfl (.inl rfl),trivial⟩
 ·rw[if_pos h0]
  generalize chkP p=E at hch h0
  refine FnK.of Tryz.func51 rfl (by kernel_rfl) Tryz.ntmps51 Tryz.results51 rfl fun w0 S0 hK0=>?_
  refine wa ?_
  exact⟨.d rfl (.inl rfl),.d rfl (.inl rfl),trivial⟩
end
end Go.Proofs.YtbbpecfapohlaaaGreatDoor
