import Derived.Test.YthdkkpocihkgbaaGreatDoorPrV
namespace Go.Proofs.YthdkkpocihkgbaaGreatDoor
open Go.RowKit
attribute [local irreducible] AC Do St
set_option maxRecDepth 100000 in
set_option maxHeartbeats 32000000 in
theorem rpFormula{Kw:World→Prop}[KSt Kw][KHas Kw MaxL](b:Nat)(i:Int):∀ (m:Nat) (s:ST),wX s<m→swX s→fbX s→∀ (x:Value) (bad:Bool) (ats:List At),plOK x ats.length→ats.length+cX s≤50000000→FnO Tryz.prog 93 Kw (rf2 b i x bad ats) [.d (.v (ptv b 0)),.g (enX s)] (rfQ b i (bad||!(fmX i s ats.length).2.2) (ats++(fmX i s ats.length).2.1) (fmX i s ats.length).1):=by
 intro m
 induction m with
 | zero=>intro s h;omega
 | succ m ih=>
 intro s hm hsw hk x bad ats hx hal
 have hz:∀ w,(zeroValue 3).run Tryz.prog w= .ok (.int .i64 0) w:=fun w=>by kernel_rfl
 have hT:(Tryz.prog).underlying 250=some (.map 9 3):=by kernel_rfl
 have hE:(Tryz.prog).underlying 3=some (.int .i64):=by kernel_rfl
 have hkd:Go.Maps.Keyed Tryz.prog 9:=Go.Maps.string_keyed (by kernel_rfl)
 have hF:∀ bad,FnO Tryz.prog 147 Kw (rpR b i x bad) _ _:=fun bad=>⟨(rpFail b i x bad).body,fun S w0 vs _=>(rpFail b i x bad).run S w0 vs fun _ _=>trivial⟩
 obtain⟨sb,w,l⟩:=s
 have e0:enF (.mk 0 0 [])=[.v (.int .i64 0),.v (.int .i64 0),.l []]:=rfl
 cases sb with
 | true=>
   rw[enX_mk,fmX_t]
   by_cases t1:w=[116,114,117,101]
   ·rw[if_pos t1]
    dsimp only
    rw[List.append_nil,show (bad||!true)=bad by cases bad<;>rfl]
    refine FnO.of Tryz.func93 rfl (by kernel_rfl) Tryz.ntmps93 Tryz.results93 rfl rfl fun w0 S0 vs hS hv hKW=>⟨_,fun t v h=> .inl h,?_⟩
    refine wz ?_
    ((try (first | intro K ms hms hK | intro K hK));(first | apply Chain.go | apply Chain.goD);exact rfl;exact rfl;exact Loc.strEq (t:=tx [116,114,117,101]) (r:=true) rfl rfl rfl (txEq (decide_eq_true t1)))
    refine wz ?_
    exact rf_ret rfl rfl hx ⟨.cn rfl rfl inferInstance rfl ⟨.inl rfl,.inl rfl,.inr rfl,trivial⟩,trivial⟩
   rw[if_neg t1]
   by_cases t2:w=[102,97,108,115,101]
   ·rw[if_pos t2]
    dsimp only
    rw[List.append_nil,show (bad||!true)=bad by cases bad<;>rfl]
    refine FnO.of Tryz.func93 rfl (by kernel_rfl) Tryz.ntmps93 Tryz.results93 rfl rfl fun w0 S0 vs hS hv hKW=>⟨_,fun t v h=> .inl h,?_⟩
    refine wz ?_
    ((try (first | intro K ms hms hK | intro K hK));(first | apply Chain.go | apply Chain.goD);exact rfl;exact rfl;exact Loc.strEq (t:=tx [116,114,117,101]) (r:=false) rfl rfl rfl (txEq (decide_eq_false t1)))
    refine wz ?_
    ((try (first | intro K ms hms hK | intro K hK));(first | apply Chain.go | apply Chain.goD);exact rfl;exact rfl;exact Loc.strEq (t:=tx [102,97,108,115,101]) (r:=true) rfl rfl rfl (txEq (decide_eq_true t2)))
    refine wz ?_
    exact rf_ret rfl rfl hx ⟨.cn rfl rfl inferInstance rfl ⟨.inl rfl,.inl rfl,.inr rfl,trivial⟩,trivial⟩
   rw[if_neg t2]
   dsimp only
   rw[List.append_nil,show (bad||!false)=true by cases bad<;>rfl]
   refine FnO.of Tryz.func93 rfl (by kernel_rfl) Tryz.ntmps93 Tryz.results93 rfl rfl fun w0 S0 vs hS hv hKW=>⟨_,fun t v h=> .inl h,?_⟩
   refine wz ?_
   ((try (first | intro K ms hms hK | intro K hK));(first | apply Chain.go | apply Chain.goD);exact rfl;exact rfl;exact Loc.strEq (t:=tx [116,114,117,101]) (r:=false) rfl rfl rfl (txEq (decide_eq_false t1)))
   refine wz ?_
   ((try (first | intro K ms hms hK | intro K hK));(first | apply Chain.go | apply Chain.goD);exact rfl;exact rfl;exact Loc.strEq (t:=tx [102,97,108,115,101]) (r:=false) rfl rfl rfl (txEq (decide_eq_false t2)))
   refine wz ?_
   ((try (first | intro K ms hms hK | intro K hK));(first | apply Chain.ef | apply Chain.efD);exact rfl;exact rfl;(refine Do.callO [215] (hF bad) rfl rfl (by decide) rfl rfl (rp_get rfl) ?_ hKW;(repeat (first | exact trivial | refine⟨.inl rfl,?_⟩ | refine⟨.inr rfl,?_⟩)));exact rfl;exact rfl)
   refine wz ?_
   exact rf_ret rfl rfl hx ⟨.cn rfl rfl inferInstance rfl ⟨.inl rfl,.inl rfl,.inr rfl,trivial⟩,trivial⟩
 | false=>
 have hH:=propHead (.mk false w l)
 have hin:=headX_in w l
 rw[fmX_h]
 rw[swX_mk]at hsw
 have hwl:=headX_w (w:=w) hsw.2
 rw[wX_mk]at hm
 have hmem:∀ y∈(headX (.mk false w l)).2,y∈l:=fun y hy=>by
  rcases hin with h | ⟨h,hh⟩
  ·rw[h]at hy;cases hy
  ·rw[hh];exact List.mem_cons_of_mem _ hy
 have hk2:∀ y z,(headX (.mk false w l)).2=[y,z]→kX y+kX z+cX z+cX y≤kX (.mk false w l)∧kX z+kX y+cX y+cX z≤kX (.mk false w l):=fun y z e=>by
  rcases hin with h | ⟨h,hh⟩
  ·rw[h]at e;cases e
  ·rw[e]at hh;have:=(kX_two (w:=w) hh).1;exact⟨this,by omega⟩
 have hfp:kindX (headX (.mk false w l)).1≠0→∀ y∈(headX (.mk false w l)).2,fbX y:=fun h y hy=>hk.part y (hmem y hy) h
 have hfl:¬ kindX (headX (.mk false w l)).1≠0→kX (.mk false w l)≤40000000:=hk.leaf
 have hcs:cXs (headX (.mk false w l)).2<cX (.mk false w l):=by
  rw[cX_mk]
  rcases hin with h | ⟨h,hh⟩
  ·rw[h,cXs_nil];omega
  ·generalize (headX (.mk false w l)).2=t at hh
   rw[hh,cXs_cons];omega
 have hkey:=key_tx _ hwl
 rw[enX_mk]at hH ⊢
 generalize (headX (.mk false w l)).1=hw at hH hwl hkey hfp hfl ⊢
 generalize (headX (.mk false w l)).2=t at hH hin hmem hk2 hcs hfp ⊢
 clear hin
 have ih':kindX hw≠0→∀ y∈t,∀(x:Value) (bad:Bool) (ats:List At),plOK x ats.length→ats.length+cX y≤50000000→FnO Tryz.prog 93 Kw (rf2 b i x bad ats) [.d (.v (ptv b 0)),.g (enX y)] (rfQ b i (bad||!(fmX i y ats.length).2.2) (ats++(fmX i y ats.length).2.1) (fmX i y ats.length).1):=fun hkn y hy=>ih y (by have:=(wXs_mem (hmem y hy)).1;omega) (swXs_mem hsw.2 y (hmem y hy)) (hfp hkn y hy)
 have hbd:∀ y∈t,exB (cX y) (kX y) (sumX i y).1:=fun y hy=>sumX_bd i _ y (Nat.lt_succ_self _)
 have hS':¬ kindX hw≠0→∀ y∈t,∀bad,FnO Tryz.prog 148 Kw (rpR b i x bad) _ _:=fun hkn y hy bad=>rpSum (Kw:=Kw) b i x _ y (Nat.lt_succ_self _) (swXs_mem hsw.2 y (hmem y hy)) (Nat.le_trans (kX_mem (hmem y hy)) (hfl hkn)) bad
 have hml:(t.map enX).length=t.length:=List.length_map ..
 have htl:=cXs_len t
 have hka:=kind_at hw
 have hoa:=op_at hw
 have hlA:∀ (j:Nat),(fmXs i (t.take j) ats.length).2.1.length≤cXs (t.take j):=fun j=>fmXs_lenA i _ (fun x _ n=>fmX_lenA i _ x (Nat.lt_succ_self _) n) _
 generalize hKK:kX (.mk false w l)=KK at*
 generalize hCC:cX (.mk false w l)=CC at*
 clear hKK hCC ih hmem hk hfp
 by_cases hkn:kindX hw≠0
 ·rw[if_pos hkn]
  have ih':=ih' hkn
  by_cases hk2':kindX hw=2∧t.length≠1
  ·rw[decide_eq_true hk2'.1,decide_eq_false hk2'.2,show ((fmXs i t ats.length).2.2&&!(true&&!false))=false by cases (fmXs i t ats.length).2.2<;>rfl]
   obtain⟨k2a,k2b⟩:=hk2'
   refine FnO.of Tryz.func93 rfl (by kernel_rfl) Tryz.ntmps93 Tryz.results93 rfl rfl fun w0 S0 vs hS hv hKW=>⟨_,fun t v h=> .inl h,?_⟩
   refine wz ?_
   refine c1 hH ?_
   refine wz ?_
   (first | intro K ms hms hK | intro K hK | skip)
   refine Chain.mkMap 9 3 rfl rfl rfl rfl fun bm=>?_
   ((try (first | intro K ms hms hK | intro K hK));(first | apply Chain.st | apply Chain.stD);exact rfl;exact rfl;exact Do.putI (id:=32) (kl:= .string [110,111,116]) (c:=2) rfl rfl rfl rfl rfl hT hE hkd (by kernel_rfl) (by decide) (by decide) rfl;exact rfl;exact rfl)
   ((try (first | intro K ms hms hK | intro K hK));(first | apply Chain.st | apply Chain.stD);exact rfl;exact rfl;exact Do.putI (id:=32) (kl:= .string [97,110,100]) (c:=3) rfl rfl rfl rfl rfl hT hE hkd (by kernel_rfl) (by decide) (by decide) rfl;exact rfl;exact rfl)
   ((try (first | intro K ms hms hK | intro K hK));(first | apply Chain.st | apply Chain.stD);exact rfl;exact rfl;exact Do.putI (id:=32) (kl:= .string [111,114]) (c:=4) rfl rfl rfl rfl rfl hT hE hkd (by kernel_rfl) (by decide) (by decide) rfl;exact rfl;exact rfl)
   refine wz ?_
   ((try (first | intro K ms hms hK | intro K hK));(first | apply Chain.go | apply Chain.goD);exact rfl;exact rfl;exact Loc.lookV (id:=32) (c:=kindX hw) (kl:= .string hw) rfl rfl rfl rfl hT hE hz hkd hkey hka)
   refine wz ?_
   ((try (first | intro K ms hms hK | intro K hK));(first | apply Chain.ef | apply Chain.efD);exact rfl;exact rfl;(refine Do.callO [215] (hF bad) rfl rfl (by decide) rfl rfl (rp_get rfl) ?_ hKW;(repeat (first | exact trivial | refine⟨.inl rfl,?_⟩ | refine⟨.inr rfl,?_⟩)));exact rfl;exact rfl)
   refine wz ?_
   refine AC.pinN 8 8 [.v (.int .i64 (kindX hw)),.v (.int .i64 0),.n] rfl rfl fun b8=>?_
   refine AC.newO 20 76 3 (by rfl) ?_
   refine wz ?_
   have hstep:∀ j (h:j<t.length),fmXs i (t.take (j+1)) ats.length=((fmXs i (t.take j) ats.length).1++[(fmX i t[j] (ats.length+(fmXs i (t.take j) ats.length).2.1.length)).1],(fmXs i (t.take j) ats.length).2.1++(fmX i t[j] (ats.length+(fmXs i (t.take j) ats.length).2.1.length)).2.1,(fmXs i (t.take j) ats.length).2.2&&(fmX i t[j] (ats.length+(fmXs i (t.take j) ats.length).2.1.length)).2.2):=fun j h=>by
    rw[List.take_succ_eq_append_getElem h,fmXs_snoc]
   refine AC.loop (X:=Nat×Value×Value) (fun X=>⟨[(0,.d (.v (ptv b 0))),(4,.p 4 0),(8,.d (.v (ptv b8 0))),(49,.d (.l (t.map enX))),(50,.d (.v (.int .i64 (t.length:Int)))),(51,.d (.v (.int .i64 (X.1:Int))))],[(4,.box 76 [.d (.v (.int .i64 0)),.d (.v (.int .i64 0)),.d .n]),(8,boxO b8 76 [.v (.int .i64 (kindX hw)),.v (.int .i64 0),.v X.2.2]),(20,rowO X.2.2 76 3 ((fmXs i (t.take X.1) ats.length).1.map enF)),(215,rpO b i X.2.1 (true||!(fmXs i (t.take X.1) ats.length).2.2)),(216,atO X.2.1 (ats++(fmXs i (t.take X.1) ats.length).2.1))]⟩) (fun X=>X.1≤t.length∧plOK X.2.1 (ats++(fmXs i (t.take X.1) ats.length).2.1).length∧plOK X.2.2 X.1) (fun X=>t.length-X.1) (0,x,.slice none 0 0) ⟨Nat.zero_le _,by dsimp only;rw[List.take_zero,fmXs_nil,List.append_nil];exact hx,.inl ⟨rfl,rfl⟩⟩ ⟨rfl,rfl,rfl,rfl,rfl,rfl,trivial⟩ ⟨rfl,rfl,by dsimp only;rw[List.take_zero,fmXs_nil];rfl,by dsimp only;rw[List.take_zero,fmXs_nil,show (true||!true)=true by rfl];rfl,by dsimp only;rw[List.take_zero,fmXs_nil,List.append_nil];rfl,trivial⟩ ?_
   intro ⟨j,xa,x8⟩ ⟨hj,hxa,hx8⟩
   dsimp only at hj hxa hx8 ⊢
   have hsl:=fmXs_len i (t.take j) ats.length
   rw[List.length_take]at hsl
   refine wz ?_
   refine s1 (fun g1=>?_) (fun g1=>?_)
   ·have hj1:j<t.length:=by omega
    have hg:t[j]?=some t[j]:=List.getElem?_eq_getElem hj1
    have hps:=hstep j hj1
    have hc2:=(cXs_at hj1).1
    have hla:=hlA j
    have hi:=ih' t[j] (List.getElem_mem hj1) xa (true||!(fmXs i (t.take j) ats.length).2.2) (ats++(fmXs i (t.take j) ats.length).2.1) hxa (by rw[List.length_append];omega)
    rw[List.length_append]at hi
    generalize t[j]=y at hg hps hi hc2
    refine wz ?_
    refine AC.drwS _ rfl (by kernel_rfl) (by decide+kernel) 8 rfl fun Qc hp hn a w hs=>?_
    refine⟨fun w=>w.cell? ⟨b8,2,none⟩=some x8,?_⟩
    have hp':∀ c σ,¬Qc (.panic c) σ:=fun c σ h=>hp c σ h
    have hSw:(fun w:World=>w.cell? ⟨b8,2,none⟩=some x8) w:=hs.boxCell (id:=8) (p:=2) rfl rfl
    refine hoistT 0 (ptv b8 (0+2)) hs hp' rfl rfl rfl rfl (by decide+kernel) (by decide+kernel) (by decide+kernel) hSw (fun w' hw'=>ex_field rfl (hs.val rfl)) rfl fun a hs=>?_
    refine hoistT 1 x8 hs hp' rfl rfl rfl rfl (by decide+kernel) (by decide+kernel) (by decide+kernel) hSw (fun w' hw'=>ex_load rfl (hs.val rfl) hw') hx8.one fun a hs=>?_
    refine hoistT 2 (ptv b 0) hs hp' rfl rfl rfl rfl (by decide+kernel) (by decide+kernel) (by decide+kernel) hSw (fun w' hw'=>ex_move rfl (hs.val rfl)) rfl fun a hs=>?_
    refine hoistE 3 (fun σ'=>σ'=_) hs rfl rfl (by decide+kernel) (Do.eff (Loc.loadPn rfl rfl rfl rfl (by kernel_rfl)) rfl rfl) (by rintro _ rfl a w hs;exact hs.boxCell (id:=8) (p:=2) rfl rfl) ?_
    rintro _ rfl a w hSw hs
    refine hoistE 4 _ hs rfl rfl (by decide+kernel) (FnO.eff [215,216] hi rfl rfl (by decide) rfl (rf_get rfl rfl) ⟨.inl rfl,.inl rfl,trivial⟩ hKW rfl) (by rintro _ ⟨post,res,⟨xb,hxb,rfl,rfl⟩,_,rfl⟩ a w hs;exact hs.boxCell (id:=8) (p:=2) rfl rfl) ?_
    rintro _ ⟨post,res,⟨xb,hxb,rfl,rfl⟩,_,rfl⟩ a w hSw hs
    refine hoistE 5 (fun σ'=>σ'=_) hs rfl rfl (by decide+kernel) (Do.eff (Loc.litP rfl rfl rfl rfl rfl rfl rfl) rfl rfl) (by rintro _ rfl a w hs;exact hs.boxCell (id:=8) (p:=2) rfl rfl) ?_
    rintro _ rfl a w hSw hs
    refine hoistE 6 (fun σ'=>σ'=_) hs rfl rfl (by decide+kernel) (Do.eff (Do.appendP 20 rfl rfl rfl rfl rfl (by intro z hz';rw[List.mem_singleton.1 hz'];rfl) (by simp;omega) (Nat.zero_lt_one)) rfl rfl) (by rintro _ rfl a w hs;exact hs.boxCell (id:=8) (p:=2) rfl rfl) ?_
    rintro _ rfl a w hSw hs
    refine hoistT 7 (ptv b8 (0+2)) hs hp' rfl rfl rfl rfl (by decide+kernel) (by decide+kernel) (by decide+kernel) hSw (fun w' hw'=>ex_field rfl (hs.val rfl)) rfl fun a hs=>?_
    refine wpAnyH_done (by decide+kernel) ⟨_,hn _ (fun K hK=>?_),hs⟩ _
    refine Chain.pinR 61 61 rfl rfl fun x8' hx8'=>?_
    ((try (first | intro K ms hms hK | intro K hK));(first | apply Chain.st | apply Chain.stD);exact rfl;exact rfl;exact Do.storeB (id:=8) rfl rfl rfl rfl rfl rfl rfl rfl;exact rfl;exact rfl)
    refine Chain.giveO 61 20 rfl rfl ?_
    refine wz ?_
    have hn8:plOK x8' (j+1):=plOK.of hx8' (by simp;omega) (by omega)
    have hnx:plOK xb (ats++(fmXs i (t.take (j+1)) ats.length).2.1).length:=by rw[hps];dsimp only;rw[←List.append_assoc];exact hxb
    refine⟨(j+1,xb,x8'),⟨hj1,hnx,hn8⟩,by dsimp only;omega,⟨rfl,rfl,rfl,rfl,rfl,rfl,trivial⟩,⟨rfl,rfl,?_,?_,?_,trivial⟩⟩
    ·dsimp only
     rw[hps]
     dsimp only
     rw[List.map_append]
     rfl
    ·dsimp only
     rw[hps]
     dsimp only
     rw[show (true||!((fmXs i (t.take j) ats.length).2.2&&(fmX i y (ats.length+(fmXs i (t.take j) ats.length).2.1.length)).2.2))=(true||!(fmXs i (t.take j) ats.length).2.2||!(fmX i y (ats.length+(fmXs i (t.take j) ats.length).2.1.length)).2.2)by cases (fmXs i (t.take j) ats.length).2.2<;>cases (fmX i y (ats.length+(fmXs i (t.take j) ats.length).2.1.length)).2.2<;>rfl]
     rfl
    ·dsimp only
     rw[hps]
     exact congrArg (fun z=>some (atO xb z)) (List.append_assoc ats _ _)
   ·obtain rfl:j=t.length:=by omega
    rw[List.take_length]at hxa ⊢
    (first | intro K ms hms hK | intro K hK | skip)
    refine Chain.frzIn 8 20 (boxR b8 76 [.v (.int .i64 (kindX hw)),.v (.int .i64 0),.l ((fmXs i t ats.length).1.map enF)]) (by decide) rfl rfl (boxR_stable _ _ _) (fun S w h0 hb h=>boxR_put (cs:=[.v (.int .i64 (kindX hw)),.v (.int .i64 0),.v x8]) (j:=2) rfl S w h0 hb h) ?_
    refine wz ?_
    ((try (first | intro K ms hms hK | intro K hK));(first | apply Chain.go | apply Chain.goD);exact rfl;exact rfl;exact Loc.loadBn (id:=8) rfl rfl rfl rfl rfl)
    refine wz ?_
    rw[show (bad||!false)=(true||!(fmXs i t ats.length).2.2)by cases bad<;>rfl]
    exact rf_ret rfl rfl hxa (by rw[enF_mk];exact⟨.cn rfl rfl inferInstance rfl ⟨.inl rfl,.inl rfl,.inl rfl,trivial⟩,trivial⟩)
  ·have hb1:(!(decide (kindX hw=2)&&!decide (t.length=1)))=true:=by
    by_cases g1:kindX hw=2
    ·have g2:t.length=1:=Classical.byContradiction fun g=>hk2' ⟨g1,g⟩
     rw[decide_eq_true g2]
     simp
    ·rw[decide_eq_false g1]
     rfl
   rw[hb1,Bool.and_true]
   by_cases k2a:kindX hw=2
   ·have k2b:t.length=1:=Classical.byContradiction fun g=>hk2' ⟨k2a,g⟩
    refine FnO.of Tryz.func93 rfl (by kernel_rfl) Tryz.ntmps93 Tryz.results93 rfl rfl fun w0 S0 vs hS hv hKW=>⟨_,fun t v h=> .inl h,?_⟩
    refine wz ?_
    refine c1 hH ?_
    refine wz ?_
    (first | intro K ms hms hK | intro K hK | skip)
    refine Chain.mkMap 9 3 rfl rfl rfl rfl fun bm=>?_
    ((try (first | intro K ms hms hK | intro K hK));(first | apply Chain.st | apply Chain.stD);exact rfl;exact rfl;exact Do.putI (id:=32) (kl:= .string [110,111,116]) (c:=2) rfl rfl rfl rfl rfl hT hE hkd (by kernel_rfl) (by decide) (by decide) rfl;exact rfl;exact rfl)
    ((try (first | intro K ms hms hK | intro K hK));(first | apply Chain.st | apply Chain.stD);exact rfl;exact rfl;exact Do.putI (id:=32) (kl:= .string [97,110,100]) (c:=3) rfl rfl rfl rfl rfl hT hE hkd (by kernel_rfl) (by decide) (by decide) rfl;exact rfl;exact rfl)
    ((try (first | intro K ms hms hK | intro K hK));(first | apply Chain.st | apply Chain.stD);exact rfl;exact rfl;exact Do.putI (id:=32) (kl:= .string [111,114]) (c:=4) rfl rfl rfl rfl rfl hT hE hkd (by kernel_rfl) (by decide) (by decide) rfl;exact rfl;exact rfl)
    refine wz ?_
    ((try (first | intro K ms hms hK | intro K hK));(first | apply Chain.go | apply Chain.goD);exact rfl;exact rfl;exact Loc.lookV (id:=32) (c:=kindX hw) (kl:= .string hw) rfl rfl rfl rfl hT hE hz hkd hkey hka)
    refine wz ?_
    refine AC.pinN 8 8 [.v (.int .i64 (kindX hw)),.v (.int .i64 0),.n] rfl rfl fun b8=>?_
    refine AC.newO 20 76 3 (by rfl) ?_
    refine wz ?_
    have hstep:∀ j (h:j<t.length),fmXs i (t.take (j+1)) ats.length=((fmXs i (t.take j) ats.length).1++[(fmX i t[j] (ats.length+(fmXs i (t.take j) ats.length).2.1.length)).1],(fmXs i (t.take j) ats.length).2.1++(fmX i t[j] (ats.length+(fmXs i (t.take j) ats.length).2.1.length)).2.1,(fmXs i (t.take j) ats.length).2.2&&(fmX i t[j] (ats.length+(fmXs i (t.take j) ats.length).2.1.length)).2.2):=fun j h=>by
     rw[List.take_succ_eq_append_getElem h,fmXs_snoc]
    refine AC.loop (X:=Nat×Value×Value) (fun X=>⟨[(0,.d (.v (ptv b 0))),(4,.p 4 0),(8,.d (.v (ptv b8 0))),(49,.d (.l (t.map enX))),(50,.d (.v (.int .i64 (t.length:Int)))),(51,.d (.v (.int .i64 (X.1:Int))))],[(4,.box 76 [.d (.v (.int .i64 0)),.d (.v (.int .i64 0)),.d .n]),(8,boxO b8 76 [.v (.int .i64 (kindX hw)),.v (.int .i64 0),.v X.2.2]),(20,rowO X.2.2 76 3 ((fmXs i (t.take X.1) ats.length).1.map enF)),(215,rpO b i X.2.1 (bad||!(fmXs i (t.take X.1) ats.length).2.2)),(216,atO X.2.1 (ats++(fmXs i (t.take X.1) ats.length).2.1))]⟩) (fun X=>X.1≤t.length∧plOK X.2.1 (ats++(fmXs i (t.take X.1) ats.length).2.1).length∧plOK X.2.2 X.1) (fun X=>t.length-X.1) (0,x,.slice none 0 0) ⟨Nat.zero_le _,by dsimp only;rw[List.take_zero,fmXs_nil,List.append_nil];exact hx,.inl ⟨rfl,rfl⟩⟩ ⟨rfl,rfl,rfl,rfl,rfl,rfl,trivial⟩ ⟨rfl,rfl,by dsimp only;rw[List.take_zero,fmXs_nil];rfl,by dsimp only;rw[List.take_zero,fmXs_nil,show (bad||!true)=bad by cases bad<;>rfl];rfl,by dsimp only;rw[List.take_zero,fmXs_nil,List.append_nil];rfl,trivial⟩ ?_
    intro ⟨j,xa,x8⟩ ⟨hj,hxa,hx8⟩
    dsimp only at hj hxa hx8 ⊢
    have hsl:=fmXs_len i (t.take j) ats.length
    rw[List.length_take]at hsl
    refine wz ?_
    refine s1 (fun g1=>?_) (fun g1=>?_)
    ·have hj1:j<t.length:=by omega
     have hg:t[j]?=some t[j]:=List.getElem?_eq_getElem hj1
     have hps:=hstep j hj1
     have hc2:=(cXs_at hj1).1
     have hla:=hlA j
     have hi:=ih' t[j] (List.getElem_mem hj1) xa (bad||!(fmXs i (t.take j) ats.length).2.2) (ats++(fmXs i (t.take j) ats.length).2.1) hxa (by rw[List.length_append];omega)
     rw[List.length_append]at hi
     generalize t[j]=y at hg hps hi hc2
     refine wz ?_
     refine AC.drwS _ rfl (by kernel_rfl) (by decide+kernel) 8 rfl fun Qc hp hn a w hs=>?_
     refine⟨fun w=>w.cell? ⟨b8,2,none⟩=some x8,?_⟩
     have hp':∀ c σ,¬Qc (.panic c) σ:=fun c σ h=>hp c σ h
     have hSw:(fun w:World=>w.cell? ⟨b8,2,none⟩=some x8) w:=hs.boxCell (id:=8) (p:=2) rfl rfl
     refine hoistT 0 (ptv b8 (0+2)) hs hp' rfl rfl rfl rfl (by decide+kernel) (by decide+kernel) (by decide+kernel) hSw (fun w' hw'=>ex_field rfl (hs.val rfl)) rfl fun a hs=>?_
     refine hoistT 1 x8 hs hp' rfl rfl rfl rfl (by decide+kernel) (by decide+kernel) (by decide+kernel) hSw (fun w' hw'=>ex_load rfl (hs.val rfl) hw') hx8.one fun a hs=>?_
     refine hoistT 2 (ptv b 0) hs hp' rfl rfl rfl rfl (by decide+kernel) (by decide+kernel) (by decide+kernel) hSw (fun w' hw'=>ex_move rfl (hs.val rfl)) rfl fun a hs=>?_
     refine hoistE 3 (fun σ'=>σ'=_) hs rfl rfl (by decide+kernel) (Do.eff (Loc.loadPn rfl rfl rfl rfl (by kernel_rfl)) rfl rfl) (by rintro _ rfl a w hs;exact hs.boxCell (id:=8) (p:=2) rfl rfl) ?_
     rintro _ rfl a w hSw hs
     refine hoistE 4 _ hs rfl rfl (by decide+kernel) (FnO.eff [215,216] hi rfl rfl (by decide) rfl (rf_get rfl rfl) ⟨.inl rfl,.inl rfl,trivial⟩ hKW rfl) (by rintro _ ⟨post,res,⟨xb,hxb,rfl,rfl⟩,_,rfl⟩ a w hs;exact hs.boxCell (id:=8) (p:=2) rfl rfl) ?_
     rintro _ ⟨post,res,⟨xb,hxb,rfl,rfl⟩,_,rfl⟩ a w hSw hs
     refine hoistE 5 (fun σ'=>σ'=_) hs rfl rfl (by decide+kernel) (Do.eff (Loc.litP rfl rfl rfl rfl rfl rfl rfl) rfl rfl) (by rintro _ rfl a w hs;exact hs.boxCell (id:=8) (p:=2) rfl rfl) ?_
     rintro _ rfl a w hSw hs
     refine hoistE 6 (fun σ'=>σ'=_) hs rfl rfl (by decide+kernel) (Do.eff (Do.appendP 20 rfl rfl rfl rfl rfl (by intro z hz';rw[List.mem_singleton.1 hz'];rfl) (by simp;omega) (Nat.zero_lt_one)) rfl rfl) (by rintro _ rfl a w hs;exact hs.boxCell (id:=8) (p:=2) rfl rfl) ?_
     rintro _ rfl a w hSw hs
     refine hoistT 7 (ptv b8 (0+2)) hs hp' rfl rfl rfl rfl (by decide+kernel) (by decide+kernel) (by decide+kernel) hSw (fun w' hw'=>ex_field rfl (hs.val rfl)) rfl fun a hs=>?_
     refine wpAnyH_done (by decide+kernel) ⟨_,hn _ (fun K hK=>?_),hs⟩ _
     refine Chain.pinR 61 61 rfl rfl fun x8' hx8'=>?_
     ((try (first | intro K ms hms hK | intro K hK));(first | apply Chain.st | apply Chain.stD);exact rfl;exact rfl;exact Do.storeB (id:=8) rfl rfl rfl rfl rfl rfl rfl rfl;exact rfl;exact rfl)
     refine Chain.giveO 61 20 rfl rfl ?_
     refine wz ?_
     have hn8:plOK x8' (j+1):=plOK.of hx8' (by simp;omega) (by omega)
     have hnx:plOK xb (ats++(fmXs i (t.take (j+1)) ats.length).2.1).length:=by rw[hps];dsimp only;rw[←List.append_assoc];exact hxb
     refine⟨(j+1,xb,x8'),⟨hj1,hnx,hn8⟩,by dsimp only;omega,⟨rfl,rfl,rfl,rfl,rfl,rfl,trivial⟩,⟨rfl,rfl,?_,?_,?_,trivial⟩⟩
     ·dsimp only
      rw[hps]
      dsimp only
      rw[List.map_append]
      rfl
     ·dsimp only
      rw[hps]
      dsimp only
      rw[show (bad||!((fmXs i (t.take j) ats.length).2.2&&(fmX i y (ats.length+(fmXs i (t.take j) ats.length).2.1.length)).2.2))=(bad||!(fmXs i (t.take j) ats.length).2.2||!(fmX i y (ats.length+(fmXs i (t.take j) ats.length).2.1.length)).2.2)by cases bad<;>cases (fmXs i (t.take j) ats.length).2.2<;>cases (fmX i y (ats.length+(fmXs i (t.take j) ats.length).2.1.length)).2.2<;>rfl]
      rfl
     ·dsimp only
      rw[hps]
      exact congrArg (fun z=>some (atO xb z)) (List.append_assoc ats _ _)
    ·obtain rfl:j=t.length:=by omega
     rw[List.take_length]at hxa ⊢
     (first | intro K ms hms hK | intro K hK | skip)
     refine Chain.frzIn 8 20 (boxR b8 76 [.v (.int .i64 (kindX hw)),.v (.int .i64 0),.l ((fmXs i t ats.length).1.map enF)]) (by decide) rfl rfl (boxR_stable _ _ _) (fun S w h0 hb h=>boxR_put (cs:=[.v (.int .i64 (kindX hw)),.v (.int .i64 0),.v x8]) (j:=2) rfl S w h0 hb h) ?_
     refine wz ?_
     ((try (first | intro K ms hms hK | intro K hK));(first | apply Chain.go | apply Chain.goD);exact rfl;exact rfl;exact Loc.loadBn (id:=8) rfl rfl rfl rfl rfl)
     refine wz ?_
     exact rf_ret rfl rfl hxa (by rw[enF_mk];exact⟨.cn rfl rfl inferInstance rfl ⟨.inl rfl,.inl rfl,.inl rfl,trivial⟩,trivial⟩)
   ·skip
    refine FnO.of Tryz.func93 rfl (by kernel_rfl) Tryz.ntmps93 Tryz.results93 rfl rfl fun w0 S0 vs hS hv hKW=>⟨_,fun t v h=> .inl h,?_⟩
    refine wz ?_
    refine c1 hH ?_
    refine wz ?_
    (first | intro K ms hms hK | intro K hK | skip)
    refine Chain.mkMap 9 3 rfl rfl rfl rfl fun bm=>?_
    ((try (first | intro K ms hms hK | intro K hK));(first | apply Chain.st | apply Chain.stD);exact rfl;exact rfl;exact Do.putI (id:=32) (kl:= .string [110,111,116]) (c:=2) rfl rfl rfl rfl rfl hT hE hkd (by kernel_rfl) (by decide) (by decide) rfl;exact rfl;exact rfl)
    ((try (first | intro K ms hms hK | intro K hK));(first | apply Chain.st | apply Chain.stD);exact rfl;exact rfl;exact Do.putI (id:=32) (kl:= .string [97,110,100]) (c:=3) rfl rfl rfl rfl rfl hT hE hkd (by kernel_rfl) (by decide) (by decide) rfl;exact rfl;exact rfl)
    ((try (first | intro K ms hms hK | intro K hK));(first | apply Chain.st | apply Chain.stD);exact rfl;exact rfl;exact Do.putI (id:=32) (kl:= .string [111,114]) (c:=4) rfl rfl rfl rfl rfl hT hE hkd (by kernel_rfl) (by decide) (by decide) rfl;exact rfl;exact rfl)
    refine wz ?_
    ((try (first | intro K ms hms hK | intro K hK));(first | apply Chain.go | apply Chain.goD);exact rfl;exact rfl;exact Loc.lookV (id:=32) (c:=kindX hw) (kl:= .string hw) rfl rfl rfl rfl hT hE hz hkd hkey hka)
    refine wz ?_
    refine AC.pinN 8 8 [.v (.int .i64 (kindX hw)),.v (.int .i64 0),.n] rfl rfl fun b8=>?_
    refine AC.newO 20 76 3 (by rfl) ?_
    refine wz ?_
    have hstep:∀ j (h:j<t.length),fmXs i (t.take (j+1)) ats.length=((fmXs i (t.take j) ats.length).1++[(fmX i t[j] (ats.length+(fmXs i (t.take j) ats.length).2.1.length)).1],(fmXs i (t.take j) ats.length).2.1++(fmX i t[j] (ats.length+(fmXs i (t.take j) ats.length).2.1.length)).2.1,(fmXs i (t.take j) ats.length).2.2&&(fmX i t[j] (ats.length+(fmXs i (t.take j) ats.length).2.1.length)).2.2):=fun j h=>by
     rw[List.take_succ_eq_append_getElem h,fmXs_snoc]
    refine AC.loop (X:=Nat×Value×Value) (fun X=>⟨[(0,.d (.v (ptv b 0))),(4,.p 4 0),(8,.d (.v (ptv b8 0))),(49,.d (.l (t.map enX))),(50,.d (.v (.int .i64 (t.length:Int)))),(51,.d (.v (.int .i64 (X.1:Int))))],[(4,.box 76 [.d (.v (.int .i64 0)),.d (.v (.int .i64 0)),.d .n]),(8,boxO b8 76 [.v (.int .i64 (kindX hw)),.v (.int .i64 0),.v X.2.2]),(20,rowO X.2.2 76 3 ((fmXs i (t.take X.1) ats.length).1.map enF)),(215,rpO b i X.2.1 (bad||!(fmXs i (t.take X.1) ats.length).2.2)),(216,atO X.2.1 (ats++(fmXs i (t.take X.1) ats.length).2.1))]⟩) (fun X=>X.1≤t.length∧plOK X.2.1 (ats++(fmXs i (t.take X.1) ats.length).2.1).length∧plOK X.2.2 X.1) (fun X=>t.length-X.1) (0,x,.slice none 0 0) ⟨Nat.zero_le _,by dsimp only;rw[List.take_zero,fmXs_nil,List.append_nil];exact hx,.inl ⟨rfl,rfl⟩⟩ ⟨rfl,rfl,rfl,rfl,rfl,rfl,trivial⟩ ⟨rfl,rfl,by dsimp only;rw[List.take_zero,fmXs_nil];rfl,by dsimp only;rw[List.take_zero,fmXs_nil,show (bad||!true)=bad by cases bad<;>rfl];rfl,by dsimp only;rw[List.take_zero,fmXs_nil,List.append_nil];rfl,trivial⟩ ?_
    intro ⟨j,xa,x8⟩ ⟨hj,hxa,hx8⟩
    dsimp only at hj hxa hx8 ⊢
    have hsl:=fmXs_len i (t.take j) ats.length
    rw[List.length_take]at hsl
    refine wz ?_
    refine s1 (fun g1=>?_) (fun g1=>?_)
    ·have hj1:j<t.length:=by omega
     have hg:t[j]?=some t[j]:=List.getElem?_eq_getElem hj1
     have hps:=hstep j hj1
     have hc2:=(cXs_at hj1).1
     have hla:=hlA j
     have hi:=ih' t[j] (List.getElem_mem hj1) xa (bad||!(fmXs i (t.take j) ats.length).2.2) (ats++(fmXs i (t.take j) ats.length).2.1) hxa (by rw[List.length_append];omega)
     rw[List.length_append]at hi
     generalize t[j]=y at hg hps hi hc2
     refine wz ?_
     refine AC.drwS _ rfl (by kernel_rfl) (by decide+kernel) 8 rfl fun Qc hp hn a w hs=>?_
     refine⟨fun w=>w.cell? ⟨b8,2,none⟩=some x8,?_⟩
     have hp':∀ c σ,¬Qc (.panic c) σ:=fun c σ h=>hp c σ h
     have hSw:(fun w:World=>w.cell? ⟨b8,2,none⟩=some x8) w:=hs.boxCell (id:=8) (p:=2) rfl rfl
     refine hoistT 0 (ptv b8 (0+2)) hs hp' rfl rfl rfl rfl (by decide+kernel) (by decide+kernel) (by decide+kernel) hSw (fun w' hw'=>ex_field rfl (hs.val rfl)) rfl fun a hs=>?_
     refine hoistT 1 x8 hs hp' rfl rfl rfl rfl (by decide+kernel) (by decide+kernel) (by decide+kernel) hSw (fun w' hw'=>ex_load rfl (hs.val rfl) hw') hx8.one fun a hs=>?_
     refine hoistT 2 (ptv b 0) hs hp' rfl rfl rfl rfl (by decide+kernel) (by decide+kernel) (by decide+kernel) hSw (fun w' hw'=>ex_move rfl (hs.val rfl)) rfl fun a hs=>?_
     refine hoistE 3 (fun σ'=>σ'=_) hs rfl rfl (by decide+kernel) (Do.eff (Loc.loadPn rfl rfl rfl rfl (by kernel_rfl)) rfl rfl) (by rintro _ rfl a w hs;exact hs.boxCell (id:=8) (p:=2) rfl rfl) ?_
     rintro _ rfl a w hSw hs
     refine hoistE 4 _ hs rfl rfl (by decide+kernel) (FnO.eff [215,216] hi rfl rfl (by decide) rfl (rf_get rfl rfl) ⟨.inl rfl,.inl rfl,trivial⟩ hKW rfl) (by rintro _ ⟨post,res,⟨xb,hxb,rfl,rfl⟩,_,rfl⟩ a w hs;exact hs.boxCell (id:=8) (p:=2) rfl rfl) ?_
     rintro _ ⟨post,res,⟨xb,hxb,rfl,rfl⟩,_,rfl⟩ a w hSw hs
     refine hoistE 5 (fun σ'=>σ'=_) hs rfl rfl (by decide+kernel) (Do.eff (Loc.litP rfl rfl rfl rfl rfl rfl rfl) rfl rfl) (by rintro _ rfl a w hs;exact hs.boxCell (id:=8) (p:=2) rfl rfl) ?_
     rintro _ rfl a w hSw hs
     refine hoistE 6 (fun σ'=>σ'=_) hs rfl rfl (by decide+kernel) (Do.eff (Do.appendP 20 rfl rfl rfl rfl rfl (by intro z hz';rw[List.mem_singleton.1 hz'];rfl) (by simp;omega) (Nat.zero_lt_one)) rfl rfl) (by rintro _ rfl a w hs;exact hs.boxCell (id:=8) (p:=2) rfl rfl) ?_
     rintro _ rfl a w hSw hs
     refine hoistT 7 (ptv b8 (0+2)) hs hp' rfl rfl rfl rfl (by decide+kernel) (by decide+kernel) (by decide+kernel) hSw (fun w' hw'=>ex_field rfl (hs.val rfl)) rfl fun a hs=>?_
     refine wpAnyH_done (by decide+kernel) ⟨_,hn _ (fun K hK=>?_),hs⟩ _
     refine Chain.pinR 61 61 rfl rfl fun x8' hx8'=>?_
     ((try (first | intro K ms hms hK | intro K hK));(first | apply Chain.st | apply Chain.stD);exact rfl;exact rfl;exact Do.storeB (id:=8) rfl rfl rfl rfl rfl rfl rfl rfl;exact rfl;exact rfl)
     refine Chain.giveO 61 20 rfl rfl ?_
     refine wz ?_
     have hn8:plOK x8' (j+1):=plOK.of hx8' (by simp;omega) (by omega)
     have hnx:plOK xb (ats++(fmXs i (t.take (j+1)) ats.length).2.1).length:=by rw[hps];dsimp only;rw[←List.append_assoc];exact hxb
     refine⟨(j+1,xb,x8'),⟨hj1,hnx,hn8⟩,by dsimp only;omega,⟨rfl,rfl,rfl,rfl,rfl,rfl,trivial⟩,⟨rfl,rfl,?_,?_,?_,trivial⟩⟩
     ·dsimp only
      rw[hps]
      dsimp only
      rw[List.map_append]
      rfl
     ·dsimp only
      rw[hps]
      dsimp only
      rw[show (bad||!((fmXs i (t.take j) ats.length).2.2&&(fmX i y (ats.length+(fmXs i (t.take j) ats.length).2.1.length)).2.2))=(bad||!(fmXs i (t.take j) ats.length).2.2||!(fmX i y (ats.length+(fmXs i (t.take j) ats.length).2.1.length)).2.2)by cases bad<;>cases (fmXs i (t.take j) ats.length).2.2<;>cases (fmX i y (ats.length+(fmXs i (t.take j) ats.length).2.1.length)).2.2<;>rfl]
      rfl
     ·dsimp only
      rw[hps]
      exact congrArg (fun z=>some (atO xb z)) (List.append_assoc ats _ _)
    ·obtain rfl:j=t.length:=by omega
     rw[List.take_length]at hxa ⊢
     (first | intro K ms hms hK | intro K hK | skip)
     refine Chain.frzIn 8 20 (boxR b8 76 [.v (.int .i64 (kindX hw)),.v (.int .i64 0),.l ((fmXs i t ats.length).1.map enF)]) (by decide) rfl rfl (boxR_stable _ _ _) (fun S w h0 hb h=>boxR_put (cs:=[.v (.int .i64 (kindX hw)),.v (.int .i64 0),.v x8]) (j:=2) rfl S w h0 hb h) ?_
     refine wz ?_
     ((try (first | intro K ms hms hK | intro K hK));(first | apply Chain.go | apply Chain.goD);exact rfl;exact rfl;exact Loc.loadBn (id:=8) rfl rfl rfl rfl rfl)
     refine wz ?_
     exact rf_ret rfl rfl hxa (by rw[enF_mk];exact⟨.cn rfl rfl inferInstance rfl ⟨.inl rfl,.inl rfl,.inl rfl,trivial⟩,trivial⟩)
 ·rw[if_neg hkn]
  have hS':=hS' hkn
  have hk:=hfl hkn
  clear ih' hfl
  have hkz:kindX hw=0:=Classical.byContradiction hkn
  have bads:∀ (h:opX hw=0∨t.length≠2),FnO Tryz.prog 93 Kw (rf2 b i x bad ats) [.d (.v (ptv b 0)),.g [.v (.bool false),.v (.string (tx w)),.l (l.map enX)]] (rfQ b i true ats (.mk 0 0 [])):=fun h=>by
   by_cases h1:opX hw=0
   ·refine FnO.of Tryz.func93 rfl (by kernel_rfl) Tryz.ntmps93 Tryz.results93 rfl rfl fun w0 S0 vs hS hv hKW=>⟨_,fun t v h=> .inl h,?_⟩
    refine wz ?_
    refine c1 hH ?_
    refine wz ?_
    (first | intro K ms hms hK | intro K hK | skip)
    refine Chain.mkMap 9 3 rfl rfl rfl rfl fun bm=>?_
    ((try (first | intro K ms hms hK | intro K hK));(first | apply Chain.st | apply Chain.stD);exact rfl;exact rfl;exact Do.putI (id:=32) (kl:= .string [110,111,116]) (c:=2) rfl rfl rfl rfl rfl hT hE hkd (by kernel_rfl) (by decide) (by decide) rfl;exact rfl;exact rfl)
    ((try (first | intro K ms hms hK | intro K hK));(first | apply Chain.st | apply Chain.stD);exact rfl;exact rfl;exact Do.putI (id:=32) (kl:= .string [97,110,100]) (c:=3) rfl rfl rfl rfl rfl hT hE hkd (by kernel_rfl) (by decide) (by decide) rfl;exact rfl;exact rfl)
    ((try (first | intro K ms hms hK | intro K hK));(first | apply Chain.st | apply Chain.stD);exact rfl;exact rfl;exact Do.putI (id:=32) (kl:= .string [111,114]) (c:=4) rfl rfl rfl rfl rfl hT hE hkd (by kernel_rfl) (by decide) (by decide) rfl;exact rfl;exact rfl)
    refine wz ?_
    ((try (first | intro K ms hms hK | intro K hK));(first | apply Chain.go | apply Chain.goD);exact rfl;exact rfl;exact Loc.lookV (id:=32) (c:=kindX hw) (kl:= .string hw) rfl rfl rfl rfl hT hE hz hkd hkey hka)
    refine wz ?_
    (first | intro K ms hms hK | intro K hK | skip)
    refine Chain.mkMap 9 3 rfl rfl rfl rfl fun bo=>?_
    ((try (first | intro K ms hms hK | intro K hK));(first | apply Chain.st | apply Chain.stD);exact rfl;exact rfl;exact Do.putI (id:=65) (kl:= .string [60,61]) (c:=1) rfl rfl rfl rfl rfl hT hE hkd (by kernel_rfl) (by decide) (by decide) rfl;exact rfl;exact rfl)
    ((try (first | intro K ms hms hK | intro K hK));(first | apply Chain.st | apply Chain.stD);exact rfl;exact rfl;exact Do.putI (id:=65) (kl:= .string [62,61]) (c:=1) rfl rfl rfl rfl rfl hT hE hkd (by kernel_rfl) (by decide) (by decide) rfl;exact rfl;exact rfl)
    ((try (first | intro K ms hms hK | intro K hK));(first | apply Chain.st | apply Chain.stD);exact rfl;exact rfl;exact Do.putI (id:=65) (kl:= .string [60]) (c:=2) rfl rfl rfl rfl rfl hT hE hkd (by kernel_rfl) (by decide) (by decide) rfl;exact rfl;exact rfl)
    ((try (first | intro K ms hms hK | intro K hK));(first | apply Chain.st | apply Chain.stD);exact rfl;exact rfl;exact Do.putI (id:=65) (kl:= .string [62]) (c:=2) rfl rfl rfl rfl rfl hT hE hkd (by kernel_rfl) (by decide) (by decide) rfl;exact rfl;exact rfl)
    ((try (first | intro K ms hms hK | intro K hK));(first | apply Chain.st | apply Chain.stD);exact rfl;exact rfl;exact Do.putI (id:=65) (kl:= .string [61]) (c:=3) rfl rfl rfl rfl rfl hT hE hkd (by kernel_rfl) (by decide) (by decide) rfl;exact rfl;exact rfl)
    refine wz ?_
    ((try (first | intro K ms hms hK | intro K hK));(first | apply Chain.go | apply Chain.goD);exact rfl;exact rfl;exact Loc.lookV (id:=65) (c:=opX hw) (kl:= .string hw) rfl rfl rfl rfl hT hE hz hkd hkey hoa)
    refine wz ?_
    ((try (first | intro K ms hms hK | intro K hK));(first | apply Chain.ef | apply Chain.efD);exact rfl;exact rfl;(refine Do.callO [215] (hF bad) rfl rfl (by decide) rfl rfl (rp_get rfl) ?_ hKW;(repeat (first | exact trivial | refine⟨.inl rfl,?_⟩ | refine⟨.inr rfl,?_⟩)));exact rfl;exact rfl)
    refine wz ?_
    exact rf_ret rfl rfl hx ⟨.cn rfl rfl inferInstance rfl ⟨.inl rfl,.inl rfl,.inr rfl,trivial⟩,trivial⟩
   ·have h2:t.length≠2:=h.resolve_left h1
    refine FnO.of Tryz.func93 rfl (by kernel_rfl) Tryz.ntmps93 Tryz.results93 rfl rfl fun w0 S0 vs hS hv hKW=>⟨_,fun t v h=> .inl h,?_⟩
    refine wz ?_
    refine c1 hH ?_
    refine wz ?_
    (first | intro K ms hms hK | intro K hK | skip)
    refine Chain.mkMap 9 3 rfl rfl rfl rfl fun bm=>?_
    ((try (first | intro K ms hms hK | intro K hK));(first | apply Chain.st | apply Chain.stD);exact rfl;exact rfl;exact Do.putI (id:=32) (kl:= .string [110,111,116]) (c:=2) rfl rfl rfl rfl rfl hT hE hkd (by kernel_rfl) (by decide) (by decide) rfl;exact rfl;exact rfl)
    ((try (first | intro K ms hms hK | intro K hK));(first | apply Chain.st | apply Chain.stD);exact rfl;exact rfl;exact Do.putI (id:=32) (kl:= .string [97,110,100]) (c:=3) rfl rfl rfl rfl rfl hT hE hkd (by kernel_rfl) (by decide) (by decide) rfl;exact rfl;exact rfl)
    ((try (first | intro K ms hms hK | intro K hK));(first | apply Chain.st | apply Chain.stD);exact rfl;exact rfl;exact Do.putI (id:=32) (kl:= .string [111,114]) (c:=4) rfl rfl rfl rfl rfl hT hE hkd (by kernel_rfl) (by decide) (by decide) rfl;exact rfl;exact rfl)
    refine wz ?_
    ((try (first | intro K ms hms hK | intro K hK));(first | apply Chain.go | apply Chain.goD);exact rfl;exact rfl;exact Loc.lookV (id:=32) (c:=kindX hw) (kl:= .string hw) rfl rfl rfl rfl hT hE hz hkd hkey hka)
    refine wz ?_
    (first | intro K ms hms hK | intro K hK | skip)
    refine Chain.mkMap 9 3 rfl rfl rfl rfl fun bo=>?_
    ((try (first | intro K ms hms hK | intro K hK));(first | apply Chain.st | apply Chain.stD);exact rfl;exact rfl;exact Do.putI (id:=65) (kl:= .string [60,61]) (c:=1) rfl rfl rfl rfl rfl hT hE hkd (by kernel_rfl) (by decide) (by decide) rfl;exact rfl;exact rfl)
    ((try (first | intro K ms hms hK | intro K hK));(first | apply Chain.st | apply Chain.stD);exact rfl;exact rfl;exact Do.putI (id:=65) (kl:= .string [62,61]) (c:=1) rfl rfl rfl rfl rfl hT hE hkd (by kernel_rfl) (by decide) (by decide) rfl;exact rfl;exact rfl)
    ((try (first | intro K ms hms hK | intro K hK));(first | apply Chain.st | apply Chain.stD);exact rfl;exact rfl;exact Do.putI (id:=65) (kl:= .string [60]) (c:=2) rfl rfl rfl rfl rfl hT hE hkd (by kernel_rfl) (by decide) (by decide) rfl;exact rfl;exact rfl)
    ((try (first | intro K ms hms hK | intro K hK));(first | apply Chain.st | apply Chain.stD);exact rfl;exact rfl;exact Do.putI (id:=65) (kl:= .string [62]) (c:=2) rfl rfl rfl rfl rfl hT hE hkd (by kernel_rfl) (by decide) (by decide) rfl;exact rfl;exact rfl)
    ((try (first | intro K ms hms hK | intro K hK));(first | apply Chain.st | apply Chain.stD);exact rfl;exact rfl;exact Do.putI (id:=65) (kl:= .string [61]) (c:=3) rfl rfl rfl rfl rfl hT hE hkd (by kernel_rfl) (by decide) (by decide) rfl;exact rfl;exact rfl)
    refine wz ?_
    ((try (first | intro K ms hms hK | intro K hK));(first | apply Chain.go | apply Chain.goD);exact rfl;exact rfl;exact Loc.lookV (id:=65) (c:=opX hw) (kl:= .string hw) rfl rfl rfl rfl hT hE hz hkd hkey hoa)
    refine wz ?_
    ((try (first | intro K ms hms hK | intro K hK));(first | apply Chain.ef | apply Chain.efD);exact rfl;exact rfl;(refine Do.callO [215] (hF bad) rfl rfl (by decide) rfl rfl (rp_get rfl) ?_ hKW;(repeat (first | exact trivial | refine⟨.inl rfl,?_⟩ | refine⟨.inr rfl,?_⟩)));exact rfl;exact rfl)
    refine wz ?_
    exact rf_ret rfl rfl hx ⟨.cn rfl rfl inferInstance rfl ⟨.inl rfl,.inl rfl,.inr rfl,trivial⟩,trivial⟩
  by_cases ho:opX hw=0
  ·rw[show cmpG ats.length (cmpX i hw t)=(.mk 0 0 [],[],false)from by
    match t with
    | []=>rfl
    | [y]=>rfl
    | [y,z]=>rw[show cmpX i hw [y,z]=none from if_pos ho];rfl
    | _::_::_::_=>rfl]
   dsimp only
   rw[List.append_nil,show (bad||!false)=true by cases bad<;>rfl]
   exact bads (.inl ho)
  match t,hH,hk2,hbd,hS',hml,htl,bads with
  | [],_,_,_,_,_,_,bads=>
    rw[show cmpG ats.length (cmpX i hw [])=(.mk 0 0 [],[],false)from rfl]
    dsimp only
    rw[List.append_nil,show (bad||!false)=true by cases bad<;>rfl]
    exact bads (.inr (by simp))
  | [y],_,_,_,_,_,_,bads=>
    rw[show cmpG ats.length (cmpX i hw [y])=(.mk 0 0 [],[],false)from rfl]
    dsimp only
    rw[List.append_nil,show (bad||!false)=true by cases bad<;>rfl]
    exact bads (.inr (by simp))
  | _::_::_::_,_,_,_,_,_,_,bads=>
    dsimp only[cmpX,cmpG]
    rw[List.append_nil,show (bad||!false)=true by cases bad<;>rfl]
    exact bads (.inr (by simp))
  | [y,z],hH,hk2,hbd,hS',hml,htl,bads=>
    clear bads
    obtain⟨c,r,rfl⟩:∃ c r,hw=c::r:=by
     cases hw with
     | nil=>exact absurd rfl ho
     | cons c r=>exact⟨c,r,rfl⟩
    rw[show cmpG ats.length (cmpX i (c::r) [y,z])=(.mk 1 ats.length [],[⟨if (c::r).head?=some 62 then subE (sumX i z).1 (sumX i y).1 else subE (sumX i y).1 (sumX i z).1,opX (c::r)⟩],(sumX i y).2&&(sumX i z).2)from by rw[show cmpX i (c::r) [y,z]=some _ from if_neg ho];rfl]
    dsimp only
    have hc0:(c::r)[0]?=some c:=rfl
    have hi:=hS' y (by simp) bad
    have hj:=hS' z (by simp) (bad||!(sumX i y).2)
    obtain⟨q1,q2,q3⟩:=hbd y (by simp)
    obtain⟨r1,r2,r3⟩:=hbd z (by simp)
    obtain⟨k1,k2⟩:=hk2 y z rfl
    have hg:[y,z][0]?=some y:=rfl
    have hg1:[y,z][1]?=some z:=rfl
    have hl1:[y,z].length=2:=rfl
    have p1:=kX_12 z
    have p2:=kX_12 y
    have a1:=tb_mulT (-1) (sumX i z).1.t
    have a2:=tb_mulT (-1) (sumX i y).1.t
    obtain⟨b1,b2,b3⟩:=scaleE_tb (-1) (sumX i z).1
    obtain⟨b4,b5,b6⟩:=scaleE_tb (-1) (sumX i y).1
    rw[bz_m1]at a1 a2 b1 b3 b4 b6
    have hbs:(bad||!((sumX i y).2&&(sumX i z).2))=(bad||!(sumX i y).2||!(sumX i z).2):=by cases bad<;>cases (sumX i y).2<;>rfl
    have e62:(c=62)=(c.toNat=62):=propext ⟨fun h=>by rw[h];rfl,fun h=>UInt8.toNat_inj.1 h⟩
    have hcb:=UInt8.toNat_lt c
    by_cases h62:c=62
    ·rw[if_pos (by rw[List.head?_cons,h62]),hbs]
     rw[e62]at h62
     refine FnO.of Tryz.func93 rfl (by kernel_rfl) Tryz.ntmps93 Tryz.results93 rfl rfl fun w0 S0 vs hS hv hKW=>⟨_,fun t v h=> .inl h,?_⟩
     refine wz ?_
     refine c1 hH ?_
     refine wz ?_
     (first | intro K ms hms hK | intro K hK | skip)
     refine Chain.mkMap 9 3 rfl rfl rfl rfl fun bm=>?_
     ((try (first | intro K ms hms hK | intro K hK));(first | apply Chain.st | apply Chain.stD);exact rfl;exact rfl;exact Do.putI (id:=32) (kl:= .string [110,111,116]) (c:=2) rfl rfl rfl rfl rfl hT hE hkd (by kernel_rfl) (by decide) (by decide) rfl;exact rfl;exact rfl)
     ((try (first | intro K ms hms hK | intro K hK));(first | apply Chain.st | apply Chain.stD);exact rfl;exact rfl;exact Do.putI (id:=32) (kl:= .string [97,110,100]) (c:=3) rfl rfl rfl rfl rfl hT hE hkd (by kernel_rfl) (by decide) (by decide) rfl;exact rfl;exact rfl)
     ((try (first | intro K ms hms hK | intro K hK));(first | apply Chain.st | apply Chain.stD);exact rfl;exact rfl;exact Do.putI (id:=32) (kl:= .string [111,114]) (c:=4) rfl rfl rfl rfl rfl hT hE hkd (by kernel_rfl) (by decide) (by decide) rfl;exact rfl;exact rfl)
     refine wz ?_
     ((try (first | intro K ms hms hK | intro K hK));(first | apply Chain.go | apply Chain.goD);exact rfl;exact rfl;exact Loc.lookV (id:=32) (c:=kindX (c::r)) (kl:= .string (c::r)) rfl rfl rfl rfl hT hE hz hkd hkey hka)
     refine wz ?_
     (first | intro K ms hms hK | intro K hK | skip)
     refine Chain.mkMap 9 3 rfl rfl rfl rfl fun bo=>?_
     ((try (first | intro K ms hms hK | intro K hK));(first | apply Chain.st | apply Chain.stD);exact rfl;exact rfl;exact Do.putI (id:=65) (kl:= .string [60,61]) (c:=1) rfl rfl rfl rfl rfl hT hE hkd (by kernel_rfl) (by decide) (by decide) rfl;exact rfl;exact rfl)
     ((try (first | intro K ms hms hK | intro K hK));(first | apply Chain.st | apply Chain.stD);exact rfl;exact rfl;exact Do.putI (id:=65) (kl:= .string [62,61]) (c:=1) rfl rfl rfl rfl rfl hT hE hkd (by kernel_rfl) (by decide) (by decide) rfl;exact rfl;exact rfl)
     ((try (first | intro K ms hms hK | intro K hK));(first | apply Chain.st | apply Chain.stD);exact rfl;exact rfl;exact Do.putI (id:=65) (kl:= .string [60]) (c:=2) rfl rfl rfl rfl rfl hT hE hkd (by kernel_rfl) (by decide) (by decide) rfl;exact rfl;exact rfl)
     ((try (first | intro K ms hms hK | intro K hK));(first | apply Chain.st | apply Chain.stD);exact rfl;exact rfl;exact Do.putI (id:=65) (kl:= .string [62]) (c:=2) rfl rfl rfl rfl rfl hT hE hkd (by kernel_rfl) (by decide) (by decide) rfl;exact rfl;exact rfl)
     ((try (first | intro K ms hms hK | intro K hK));(first | apply Chain.st | apply Chain.stD);exact rfl;exact rfl;exact Do.putI (id:=65) (kl:= .string [61]) (c:=3) rfl rfl rfl rfl rfl hT hE hkd (by kernel_rfl) (by decide) (by decide) rfl;exact rfl;exact rfl)
     refine wz ?_
     ((try (first | intro K ms hms hK | intro K hK));(first | apply Chain.go | apply Chain.goD);exact rfl;exact rfl;exact Loc.lookV (id:=65) (c:=opX (c::r)) (kl:= .string (c::r)) rfl rfl rfl rfl hT hE hz hkd hkey hoa)
     refine wz ?_
     refine AC.drw (by kernel_rfl) (by decide+kernel) ?_
     refine wz ?_
     ((try (first | intro K ms hms hK | intro K hK));(first | apply Chain.ef | apply Chain.efD);exact rfl;exact rfl;(refine Do.callO [215] (hi) rfl rfl (by decide) rfl rfl (rp_get rfl) ?_ hKW;(repeat (first | exact trivial | refine⟨.inl rfl,?_⟩ | refine⟨.inr rfl,?_⟩)));exact rfl;exact rfl)
     refine wz ?_
     ((try (first | intro K ms hms hK | intro K hK));(first | apply Chain.ef | apply Chain.efD);exact rfl;exact rfl;(refine Do.callO [215] (hj) rfl rfl (by decide) rfl rfl (rp_get rfl) ?_ hKW;(repeat (first | exact trivial | refine⟨.inl rfl,?_⟩ | refine⟨.inr rfl,?_⟩)));exact rfl;exact rfl)
     refine wz ?_
     ((try (first | intro K ms hms hK | intro K hK));(first | apply Chain.go | apply Chain.goD);exact rfl;exact rfl;exact Loc.strAt (c:=c) 0 rfl rfl rfl rfl hc0 (by kernel_rfl))
     refine wz ?_
     refine AC.drwL _ rfl (by kernel_rfl) (by decide+kernel) ?_
     refine wz ?_
     refine c1 (subTF (sumX i z).1 (sumX i y).1 (by omega) (fun u hu=>by have:=tb_mem hu;omega) (by omega) (by omega) (by omega)) ?_
     refine wz ?_
     ((try (first | intro K ms hms hK | intro K hK));(first | apply Chain.ef2 | apply Chain.efD2);exact rfl;exact rfl;exact Do.appendP 216 rfl rfl rfl rfl rfl (by intro u hu;rw[List.mem_singleton.1 hu];rfl) (by simp;omega) (Nat.zero_lt_one);exact rfl;exact rfl)
     refine wz ?_
     (first | intro K ms hms hK | intro K hK)
     refine Chain.pinR 105 105 rfl rfl fun x' hx'=>?_
     ((try (first | intro K ms hms hK | intro K hK));(first | apply Chain.st | apply Chain.stD);exact rfl;exact rfl;exact Do.storeB (id:=215) rfl rfl rfl rfl rfl rfl rfl rfl;exact rfl;exact rfl)
     refine Chain.giveO 105 216 rfl rfl ?_
     obtain⟨bx,cx,rfl⟩:∃ bx cx,x'=slv bx (ats.length+1) cx:=by
      rcases hx' with h | ⟨bx,cx,h⟩
      ·exact absurd h (by simp)
      ·exact⟨bx,cx,by rw[h];simp⟩
     refine wz ?_
     rw[show (((ats.length+1:Nat):Int)-1)=(ats.length:Int)by omega]
     refine wz ?_
     exact rf_ret rfl (by show _=some (atO _ (ats++[_]));unfold atO;rw[List.map_append];rfl) (.inr ⟨bx,cx,by rw[List.length_append];rfl⟩) ⟨.cn rfl rfl inferInstance rfl ⟨.inl rfl,.inl rfl,.inr rfl,trivial⟩,trivial⟩
    ·rw[if_neg (by rw[List.head?_cons,Option.some.injEq];exact h62),hbs]
     rw[e62]at h62
     refine FnO.of Tryz.func93 rfl (by kernel_rfl) Tryz.ntmps93 Tryz.results93 rfl rfl fun w0 S0 vs hS hv hKW=>⟨_,fun t v h=> .inl h,?_⟩
     refine wz ?_
     refine c1 hH ?_
     refine wz ?_
     (first | intro K ms hms hK | intro K hK | skip)
     refine Chain.mkMap 9 3 rfl rfl rfl rfl fun bm=>?_
     ((try (first | intro K ms hms hK | intro K hK));(first | apply Chain.st | apply Chain.stD);exact rfl;exact rfl;exact Do.putI (id:=32) (kl:= .string [110,111,116]) (c:=2) rfl rfl rfl rfl rfl hT hE hkd (by kernel_rfl) (by decide) (by decide) rfl;exact rfl;exact rfl)
     ((try (first | intro K ms hms hK | intro K hK));(first | apply Chain.st | apply Chain.stD);exact rfl;exact rfl;exact Do.putI (id:=32) (kl:= .string [97,110,100]) (c:=3) rfl rfl rfl rfl rfl hT hE hkd (by kernel_rfl) (by decide) (by decide) rfl;exact rfl;exact rfl)
     ((try (first | intro K ms hms hK | intro K hK));(first | apply Chain.st | apply Chain.stD);exact rfl;exact rfl;exact Do.putI (id:=32) (kl:= .string [111,114]) (c:=4) rfl rfl rfl rfl rfl hT hE hkd (by kernel_rfl) (by decide) (by decide) rfl;exact rfl;exact rfl)
     refine wz ?_
     ((try (first | intro K ms hms hK | intro K hK));(first | apply Chain.go | apply Chain.goD);exact rfl;exact rfl;exact Loc.lookV (id:=32) (c:=kindX (c::r)) (kl:= .string (c::r)) rfl rfl rfl rfl hT hE hz hkd hkey hka)
     refine wz ?_
     (first | intro K ms hms hK | intro K hK | skip)
     refine Chain.mkMap 9 3 rfl rfl rfl rfl fun bo=>?_
     ((try (first | intro K ms hms hK | intro K hK));(first | apply Chain.st | apply Chain.stD);exact rfl;exact rfl;exact Do.putI (id:=65) (kl:= .string [60,61]) (c:=1) rfl rfl rfl rfl rfl hT hE hkd (by kernel_rfl) (by decide) (by decide) rfl;exact rfl;exact rfl)
     ((try (first | intro K ms hms hK | intro K hK));(first | apply Chain.st | apply Chain.stD);exact rfl;exact rfl;exact Do.putI (id:=65) (kl:= .string [62,61]) (c:=1) rfl rfl rfl rfl rfl hT hE hkd (by kernel_rfl) (by decide) (by decide) rfl;exact rfl;exact rfl)
     ((try (first | intro K ms hms hK | intro K hK));(first | apply Chain.st | apply Chain.stD);exact rfl;exact rfl;exact Do.putI (id:=65) (kl:= .string [60]) (c:=2) rfl rfl rfl rfl rfl hT hE hkd (by kernel_rfl) (by decide) (by decide) rfl;exact rfl;exact rfl)
     ((try (first | intro K ms hms hK | intro K hK));(first | apply Chain.st | apply Chain.stD);exact rfl;exact rfl;exact Do.putI (id:=65) (kl:= .string [62]) (c:=2) rfl rfl rfl rfl rfl hT hE hkd (by kernel_rfl) (by decide) (by decide) rfl;exact rfl;exact rfl)
     ((try (first | intro K ms hms hK | intro K hK));(first | apply Chain.st | apply Chain.stD);exact rfl;exact rfl;exact Do.putI (id:=65) (kl:= .string [61]) (c:=3) rfl rfl rfl rfl rfl hT hE hkd (by kernel_rfl) (by decide) (by decide) rfl;exact rfl;exact rfl)
     refine wz ?_
     ((try (first | intro K ms hms hK | intro K hK));(first | apply Chain.go | apply Chain.goD);exact rfl;exact rfl;exact Loc.lookV (id:=65) (c:=opX (c::r)) (kl:= .string (c::r)) rfl rfl rfl rfl hT hE hz hkd hkey hoa)
     refine wz ?_
     refine AC.drw (by kernel_rfl) (by decide+kernel) ?_
     refine wz ?_
     ((try (first | intro K ms hms hK | intro K hK));(first | apply Chain.ef | apply Chain.efD);exact rfl;exact rfl;(refine Do.callO [215] (hi) rfl rfl (by decide) rfl rfl (rp_get rfl) ?_ hKW;(repeat (first | exact trivial | refine⟨.inl rfl,?_⟩ | refine⟨.inr rfl,?_⟩)));exact rfl;exact rfl)
     refine wz ?_
     ((try (first | intro K ms hms hK | intro K hK));(first | apply Chain.ef | apply Chain.efD);exact rfl;exact rfl;(refine Do.callO [215] (hj) rfl rfl (by decide) rfl rfl (rp_get rfl) ?_ hKW;(repeat (first | exact trivial | refine⟨.inl rfl,?_⟩ | refine⟨.inr rfl,?_⟩)));exact rfl;exact rfl)
     refine wz ?_
     ((try (first | intro K ms hms hK | intro K hK));(first | apply Chain.go | apply Chain.goD);exact rfl;exact rfl;exact Loc.strAt (c:=c) 0 rfl rfl rfl rfl hc0 (by kernel_rfl))
     refine wz ?_
     refine AC.drwL _ rfl (by kernel_rfl) (by decide+kernel) ?_
     refine wz ?_
     refine c1 (subTF (sumX i y).1 (sumX i z).1 (by omega) (fun u hu=>by have:=tb_mem hu;omega) (by omega) (by omega) (by omega)) ?_
     refine wz ?_
     ((try (first | intro K ms hms hK | intro K hK));(first | apply Chain.ef2 | apply Chain.efD2);exact rfl;exact rfl;exact Do.appendP 216 rfl rfl rfl rfl rfl (by intro u hu;rw[List.mem_singleton.1 hu];rfl) (by simp;omega) (Nat.zero_lt_one);exact rfl;exact rfl)
     refine wz ?_
     (first | intro K ms hms hK | intro K hK)
     refine Chain.pinR 105 105 rfl rfl fun x' hx'=>?_
     ((try (first | intro K ms hms hK | intro K hK));(first | apply Chain.st | apply Chain.stD);exact rfl;exact rfl;exact Do.storeB (id:=215) rfl rfl rfl rfl rfl rfl rfl rfl;exact rfl;exact rfl)
     refine Chain.giveO 105 216 rfl rfl ?_
     obtain⟨bx,cx,rfl⟩:∃ bx cx,x'=slv bx (ats.length+1) cx:=by
      rcases hx' with h | ⟨bx,cx,h⟩
      ·exact absurd h (by simp)
      ·exact⟨bx,cx,by rw[h];simp⟩
     refine wz ?_
     rw[show (((ats.length+1:Nat):Int)-1)=(ats.length:Int)by omega]
     refine wz ?_
     exact rf_ret rfl (by show _=some (atO _ (ats++[_]));unfold atO;rw[List.map_append];rfl) (.inr ⟨bx,cx,by rw[List.length_append];rfl⟩) ⟨.cn rfl rfl inferInstance rfl ⟨.inl rfl,.inl rfl,.inr rfl,trivial⟩,trivial⟩
end Go.Proofs.YthdkkpocihkgbaaGreatDoor
