import Derived.Test.YthdkkpocihkgbaaGreatDoorPrX
set_option maxRecDepth 100000
set_option maxHeartbeats 16000000
namespace Go.Proofs.YthdkkpocihkgbaaGreatDoor
open Go.RowKit
attribute [local irreducible] AC Do St
theorem wy{p q:Prop}(k:q)(hs:Wk q→p:=by
  intro k
  try (first | intro K ms hms hK | intro K hK)
  repeat (first
   | refine Chain.no rfl rfl ?_
   | refine Chain.noD rfl rfl ?_
   | ((first | apply Chain.go | apply Chain.goD);exact rfl;exact rfl;first
     | exact Loc.move (v:= .d _) rfl rfl
     | exact Loc.assign (v:= .d _) rfl rfl
     | exact Loc.chkV rfl rfl
     | exact Loc.fieldV rfl rfl
     | exact Loc.lenV rfl rfl
     | exact Loc.loadB1 (id:=36) rfl rfl rfl rfl
     | exact Loc.loadP1 rfl rfl rfl rfl
     | exact Loc.loadQ1 rfl rfl rfl
     | exact Loc.fieldP rfl rfl rfl
     | exact Loc.fieldQ rfl rfl
     | exact Loc.pickT (v:= .d _) rfl rfl rfl
     | exact Loc.pickF (v:= .d _) rfl rfl rfl
     | exact Loc.loadPn rfl rfl rfl rfl (by kernel_rfl)
     | exact Loc.loadQw rfl rfl rfl
     | exact Loc.loadQn rfl rfl rfl rfl
     | exact Loc.idxM rfl rfl rfl rfl (by assumption) rfl
     | exact Loc.lenM rfl rfl
     | exact Loc.lenN rfl rfl
     | exact Loc.lenR rfl rfl rfl
     | exact Loc.len rfl rfl
     | exact Loc.lssT rfl rfl rfl (by omega)
     | exact Loc.lssF rfl rfl rfl (by omega)
     | exact Loc.eqlT rfl rfl rfl (by omega)
     | exact Loc.eqlF rfl rfl rfl (by omega)
     | exact Loc.neqT rfl rfl rfl (by omega)
     | exact Loc.neqF rfl rfl rfl (by omega)
     | exact Loc.gtrT rfl rfl rfl (by omega)
     | exact Loc.gtrF rfl rfl rfl (by omega)
     | exact Loc.add rfl rfl rfl (IntWalk.i64_in _ (by omega))
     | exact Loc.sub rfl rfl rfl (IntWalk.i64_in _ (by omega))
     | exact Loc.notT rfl rfl
     | exact Loc.notF rfl rfl
     | exact Loc.fieldE rfl rfl rfl
     | exact Loc.loadE1 rfl rfl rfl (by assumption) rfl
     | exact Loc.idxR rfl rfl rfl rfl rfl (by omega) rfl
     | exact Loc.move (v:= .g _) rfl rfl
     | exact Loc.move (v:= .p _ _) rfl rfl
     | exact Loc.move (v:= .r _ _) rfl rfl
     | exact Loc.move (v:= .t _) rfl rfl
     | exact Loc.assign (v:= .g _) rfl rfl
     | exact Loc.assign (v:= .r _ _) rfl rfl
     | exact Loc.assign (v:= .p _ _) rfl rfl
     | exact Loc.extract (v:= .d _) rfl rfl rfl rfl
     | exact Loc.extract (v:= .g _) rfl rfl rfl rfl
     | exact Loc.pickT (v:= .g _) rfl rfl rfl
     | exact Loc.pickF (v:= .g _) rfl rfl rfl
     | exact Loc.move (v:= .un) rfl rfl
     | exact Loc.build rfl rfl rfl rfl
     | exact Loc.litP rfl rfl rfl rfl rfl rfl rfl
     | exact Loc.sub rfl rfl rfl (wrap_i32 (by omega) (by omega))
     | exact Loc.mul rfl rfl rfl (IntWalk.i64_in _ (by omega))
     | exact Loc.sub rfl rfl rfl (u8w (by omega) (by omega))
     | exact Loc.conv rfl rfl (IntWalk.i64_in _ (by omega))
     | exact Loc.strLenL rfl rfl (by kernel_rfl)
     | exact Loc.strAtL rfl rfl rfl rfl (by assumption) (by kernel_rfl)
     | exact Loc.strEqT rfl rfl rfl (by first | assumption | exact rfl)
     | exact Loc.strEqF rfl rfl rfl (by first | assumption | decide)
     | exact Loc.strNxT rfl rfl rfl (by first | assumption | decide)
     | exact Loc.strNxF rfl rfl rfl (by first | assumption | exact rfl)
     | exact Loc.eqB rfl rfl rfl (by kernel_rfl) rfl
     | exact Loc.neB rfl rfl rfl (by kernel_rfl) rfl
     | (focus (refine Loc.callD (by assumption) rfl ?_;(repeat (first | exact trivial | refine⟨.inl rfl,?_⟩ | refine⟨.inr rfl,?_⟩));done))
     | (focus (refine Loc.callG (by assumption) rfl ?_;(repeat (first | exact trivial | refine⟨.inl rfl,?_⟩ | refine⟨.inr rfl,?_⟩));done))
     | (focus (refine Loc.callT (by assumption) rfl ?_;(repeat (first | exact trivial | refine⟨.inl rfl,?_⟩ | refine⟨.inr rfl,?_⟩));done))
     | (focus (refine Loc.callWD (by assumption) rfl ?_ (kHere KSt.st (by assumption) rfl);(repeat (first | exact trivial | refine⟨.inl rfl,?_⟩ | refine⟨.inr rfl,?_⟩));done))
     | (focus (refine Loc.callWG (by assumption) rfl ?_ (kHere KSt.st (by assumption) rfl);(repeat (first | exact trivial | refine⟨.inl rfl,?_⟩ | refine⟨.inr rfl,?_⟩));done))
     | (focus (refine Loc.callWT (by assumption) rfl ?_ (kHere KSt.st (by assumption) rfl);(repeat (first | exact trivial | refine⟨.inl rfl,?_⟩ | refine⟨.inr rfl,?_⟩));done)))
   | refine Chain.nil0 (hK _ ?_)
   | ((first | apply Chain.st | apply Chain.stD);exact rfl;exact rfl;(first
     | exact Do.storeB (id:=36) rfl rfl rfl rfl rfl rfl rfl rfl
     | exact Do.storeP rfl rfl rfl rfl .g rfl rfl rfl
     | exact Do.storeP rfl rfl rfl rfl .d rfl rfl rfl
     | exact Do.storeP rfl rfl rfl rfl (.r rfl) rfl rfl rfl);exact rfl;exact rfl)
   | ((first | apply Chain.ef | apply Chain.efD);exact rfl;exact rfl;(first
     | exact Do.alloc rfl rfl rfl
     | exact Do.box rfl rfl rfl .g rfl
     | exact Do.box rfl rfl rfl .d rfl
     | exact Do.lit0 rfl rfl
     | exact Do.append1 rfl rfl rfl rfl rfl rfl (by first | omega | (simp;omega))
     | exact Do.appendN1 rfl rfl rfl rfl rfl rfl);exact rfl;exact rfl)
   | refine Chain.nilD (by rw[hms];kernel_rfl) (hK _ ?_)
   | refine Chain.noN rfl rfl ?_
   | refine AC.seq ?_
   | (refine AC.reg (by decide+kernel) ?_;intro K hK)
   | (refine AC.regG (by decide+kernel) ?_;intro K hK)
   | (refine AC.drw (by kernel_rfl) (by decide+kernel) ?_;intro K ms hms hK)
   | (refine AC.drwG (by kernel_rfl) (by decide+kernel) ?_;intro K ms hms hK)
   | refine AC.condT rfl ?_
   | refine AC.condF rfl ?_
   | refine AC.block ?_
   | refine AC.exit ?_
   | refine AC.ret ?_
   | refine AC.skip ?_)
  first
   | exact k.out
   | (revert K;exact k.out)
   | (revert K ms;exact k.out)):p:=hs ⟨k⟩
theorem parseE{Kw:World→Prop}[KSt Kw][KHas Kw MaxL](src:List UInt8)(i o e pl:Int)(he:e≠0)(hp:Fn Tryz.prog 45 [.d (.v (.string (tx src)))] [.d (.l []),.d (.v (.int .i64 pl)),.d (.v (.int .i64 e))]):FnK Tryz.prog 42 Kw [.d (.v (.string (tx src))),.d (.v (.int .i64 i)),.d (.v (.int .i64 o))] (badR e):=by
 refine FnK.of Tryz.func42 rfl (by kernel_rfl) Tryz.ntmps42 Tryz.results42 rfl fun w0 S0 hK0=>?_;refine wy ?_;exact⟨.cn rfl rfl inferInstance rfl ⟨.inr rfl,.inr rfl,.inl rfl,.inl rfl,.inr rfl,trivial⟩,.d rfl (.inl rfl),trivial⟩
theorem parseOK{Kw:World→Prop}[KSt Kw][KHas Kw MaxL](src:List UInt8)(i o:Int)(l:List ST)(hp:Fn Tryz.prog 45 [.d (.v (.string (tx src)))] [.d (.l (l.map enX)),.d (.v (.int .i64 0)),.d (.v (.int .i64 0))])(hl:cXs l≤100000)(hs:∀ s∈l,swX s)(hfb:∀ c∈l,∀f,(headX c).2=[f]→fbX f∧wX f≤40000000):FnK Tryz.prog 42 Kw [.d (.v (.string (tx src))),.d (.v (.int .i64 i)),.d (.v (.int .i64 o))] (resP i o (parsePP i l)):=by
 have hml:(l.map enX).length=l.length:=List.length_map ..;have hcl:=cXs_len l;by_cases h2:l.length≠2
 ·rw[show parsePP i l=none from by
   match l,h2 with
   | [],_=>rfl
   | [_],_=>rfl
   | [_,_],h=>exact absurd rfl h
   | _::_::_::_,_=>rfl]
  refine FnK.of Tryz.func42 rfl (by kernel_rfl) Tryz.ntmps42 Tryz.results42 rfl fun w0 S0 hK0=>?_;refine wy ?_;exact⟨.cn rfl rfl inferInstance rfl ⟨.inr rfl,.inr rfl,.inl rfl,.inl rfl,.inr rfl,trivial⟩,.d rfl (.inl rfl),trivial⟩
 obtain⟨a,c,rfl⟩:∃ a c,l=[a,c]:=by
  match l,h2 with
  | [],h=>exact absurd (by decide) h
  | [_],h=>exact absurd (by simp) h
  | [a,c],_=>exact⟨a,c,rfl⟩
  | _::_::_::_,h=>exact absurd (by simp) h
 clear h2;have hl2:[a,c].length=2:=rfl;have hg0:[a,c][0]?=some a:=rfl;have hg1:[a,c][1]?=some c:=rfl;rw[cXs_cons,cXs_cons,cXs_nil]at hl;have swa:=hs a (by simp);have swc:=hs c (by simp);have hfb:=hfb c (by simp);have hA:=propHead a;have hC:=propHead c;have heads:∀ s:ST,swX s→∀ x∈(headX s).2,swX x∧cX x≤cX s:=fun s h1 x hx=>by
  obtain⟨sb,w,l⟩:=s;cases sb with
  | true=>cases hx
  | false=>
    rw[swX_mk]at h1;have hm:x∈l:=by
     rcases headX_in w l with h | ⟨h,hh⟩
     ·rw[h]at hx;cases hx
     ·rw[hh];exact List.mem_cons_of_mem _ hx
    exact⟨swXs_mem h1.2 x hm,by rw[cX_mk];have:=(wXs_mem hm).2;omega⟩
 have hta:=heads a swa;have htc:=heads c swc;have hla:(headX a).2.length≤cX a:=by
  obtain⟨sb,w,l⟩:=a;cases sb with
  | true=>exact Nat.zero_le _
  | false=>
    have:=cXs_len (headX (.mk false w l)).2;rw[cX_mk];rcases headX_in w l with h | ⟨h,hh⟩
    ·rw[h];exact Nat.zero_le _
    ·generalize (headX (.mk false w l)).2=t at hh this;rw[hh,cXs_cons];omega
 have hPP:parsePP i [a,c]=if (headX a).1=[98,111,120]∧(headX c).1=[98,97,100]∧(headX a).2.all pairB=true then
    (match (headX c).2 with
      | [f]=>if (bxOK (headX a).2&&(fmX i f 0).2.2)=true then some ⟨(headX a).2.map fun x=>(sideX x).1,(fmX i f 0).2.1,(fmX i f 0).1⟩else none
      | _=>none)else none:=rfl
 rw[hPP];clear hPP heads hs;generalize (headX a).1=ha at hA ⊢;generalize (headX a).2=ta at hA hta hla ⊢;generalize (headX c).1=hc at hC ⊢;generalize (headX c).2=tc at hC htc hfb ⊢;have hma:(ta.map enX).length=ta.length:=List.length_map ..;have hmc:(tc.map enX).length=tc.length:=List.length_map ..;by_cases q1:ha=[98,111,120]
 rotate_left
 ·rw[if_neg (fun h=>q1 h.1)];refine FnK.of Tryz.func42 rfl (by kernel_rfl) Tryz.ntmps42 Tryz.results42 rfl fun w0 S0 hK0=>?_;refine wy ?_;(first | intro K ms hms hK | intro K hK | skip);refine Chain.pin2 11 36 36 [.v (.int .i64 i),.n,.v (.bool false)] rfl rfl rfl fun b=>?_;refine Chain.reown 36 (boxR b 196 (rpC i (.slice none 0 0) false)) rfl boxR_nv (boxR_stable _ _ _) ?_;refine Chain.newO 122 157 5 rfl ?_;refine c1 hA ?_;refine wy ?_;exact⟨.cn rfl rfl inferInstance rfl ⟨.inr rfl,.inr rfl,.inl rfl,.inl rfl,.inr rfl,trivial⟩,.d rfl (.inl rfl),trivial⟩
 by_cases q2:hc=[98,97,100]
 rotate_left
 ·rw[if_neg (fun h=>q2 h.2.1)];refine FnK.of Tryz.func42 rfl (by kernel_rfl) Tryz.ntmps42 Tryz.results42 rfl fun w0 S0 hK0=>?_;refine wy ?_;(first | intro K ms hms hK | intro K hK | skip);refine Chain.pin2 11 36 36 [.v (.int .i64 i),.n,.v (.bool false)] rfl rfl rfl fun b=>?_;refine Chain.reown 36 (boxR b 196 (rpC i (.slice none 0 0) false)) rfl boxR_nv (boxR_stable _ _ _) ?_;refine Chain.newO 122 157 5 rfl ?_;refine c1 hA ?_;refine wy ?_;exact⟨.cn rfl rfl inferInstance rfl ⟨.inr rfl,.inr rfl,.inl rfl,.inl rfl,.inr rfl,trivial⟩,.d rfl (.inl rfl),trivial⟩
 by_cases q3:tc.length=1
 rotate_left
 ·rw[show (match tc with
     | [f]=>if (bxOK ta&&(fmX i f 0).2.2)=true then some (⟨ta.map fun x=>(sideX x).1,(fmX i f 0).2.1,(fmX i f 0).1⟩:PP)else none
     | _=>none)=none from by
    match tc,q3 with
    | [],_=>rfl
    | [_],h=>exact absurd rfl h
    | _::_::_,_=>rfl,ite_self]
  refine FnK.of Tryz.func42 rfl (by kernel_rfl) Tryz.ntmps42 Tryz.results42 rfl fun w0 S0 hK0=>?_;refine wy ?_;(first | intro K ms hms hK | intro K hK | skip);refine Chain.pin2 11 36 36 [.v (.int .i64 i),.n,.v (.bool false)] rfl rfl rfl fun b=>?_;refine Chain.reown 36 (boxR b 196 (rpC i (.slice none 0 0) false)) rfl boxR_nv (boxR_stable _ _ _) ?_;refine Chain.newO 122 157 5 rfl ?_;refine c1 hA ?_;refine wy ?_;exact⟨.cn rfl rfl inferInstance rfl ⟨.inr rfl,.inr rfl,.inl rfl,.inl rfl,.inr rfl,trivial⟩,.d rfl (.inl rfl),trivial⟩
 obtain⟨f,rfl⟩:∃ f,tc=[f]:=List.length_eq_one_iff.1 q3;have hgf:[f][0]?=some f:=rfl;obtain⟨swf,cf⟩:=htc f (by simp);obtain⟨kf,hwf⟩:=hfb f rfl;dsimp only;refine FnK.of Tryz.func42 rfl (by kernel_rfl) Tryz.ntmps42 Tryz.results42 rfl fun w0 S0 hK0=>?_;have hKW:∀ w',FrO ([]:List Value) w0 w'→Kw w':=fun w' hf=>KSt.st w0 w' hK0 ⟨hf.1,hf.2.1,hf.2.2.1,hf.2.2.2.1,fun b hb=>hf.2.2.2.2 b hb (by simp)⟩;refine wy ?_;(first | intro K ms hms hK | intro K hK | skip);refine Chain.pin2 11 36 36 [.v (.int .i64 i),.n,.v (.bool false)] rfl rfl rfl fun b=>?_;refine Chain.reown 36 (boxR b 196 (rpC i (.slice none 0 0) false)) rfl boxR_nv (boxR_stable _ _ _) ?_;refine Chain.newO 122 157 5 rfl ?_;refine c1 hA ?_;refine wy ?_;refine AC.rowBox 16 0 121 152 6 rfl rfl rfl ?_;have hN:∀ (x:ST),swX x→∀ bad,FnO Tryz.prog 92 Kw (rpR b i (.slice none 0 0) bad) _ _:=fun x hx bad=>rpNumber (Kw:=Kw) b i _ bad x (swX_w hx)
 refine AC.loop (X:=Nat) (fun j=>⟨[(1,.d (.v (.int .i64 i))),(2,.d (.v (.int .i64 o))),(6,.p 6 0),(11,.d (.v (ptv b 0))),(15,.d (.l ([f].map enX))),(16,.p 16 0),(64,.d (.l (ta.map enX))),(65,.d (.v (.int .i64 (ta.length:Int)))),(66,.d (.v (.int .i64 (j:Int))))],[(6,.box 83 [.d .n,.d .n,.d (.v (.int .i64 0)),.d (.v (.int .i64 0)),.d .n]),(16,.box 83 [.r 121 j,.d .n,.d (.v (.int .i64 0)),.d (.v (.int .i64 0)),.d .n]),(36,rpO b i (.slice none 0 0) (!bxOK (ta.take j))),(121,.row j 152 6 ((ta.take j).map fun x=>enSd (sideX x).1)),(122,atO (.slice none 0 0) [])]⟩) (fun j=>j≤ta.length∧∀ x∈ta.take j,pairB x=true) (fun j=>ta.length-j) 0 ⟨Nat.zero_le _,by simp⟩ ⟨rfl,rfl,rfl,rfl,rfl,rfl,rfl,rfl,rfl,trivial⟩ ⟨rfl,rfl,rfl,rfl,rfl,trivial⟩ ?_;intro j ⟨hj,hpj⟩;dsimp only at hj hpj ⊢;refine wy ?_;refine s1 (fun g1=>?_) (fun g1=>?_)
 ·have hj1:j<ta.length:=by omega
  have hgj:ta[j]?=some ta[j]:=List.getElem?_eq_getElem hj1;have hmj:ta[j]∈ta:=List.getElem_mem hj1;have htk:ta.take (j+1)=ta.take j++[ta[j]]:=List.take_succ_eq_append_getElem hj1;obtain⟨swx,kx⟩:=hta _ hmj;generalize ta[j]=x at hgj hmj htk swx kx;have hno:pairB x=false→¬ (ha=[98,111,120]∧hc=[98,97,100]∧ta.all pairB=true):=fun h h'=>by
   have:=List.all_eq_true.1 h'.2.2 x hmj;rw[h]at this;cases this
  obtain⟨xb,xw,xl⟩:=x;rw[swX_mk]at swx;cases xb with
  | true=>
    refine wy ?_;rw[if_neg (hno rfl)];exact⟨.cn rfl rfl inferInstance rfl ⟨.inr rfl,.inr rfl,.inl rfl,.inl rfl,.inr rfl,trivial⟩,.d rfl (.inl rfl),trivial⟩
  | false=>
    have hsub:subX (.mk false xw xl)=xl.map enX:=by rw[subX,subXs_map]
    have hxl:(subX (.mk false xw xl)).length=xl.length:=by rw[hsub];exact List.length_map ..
    have hcx:=cXs_len xl;have hcx2:cXs xl≤cX (.mk false xw xl):=by rw[cX_mk];omega
    by_cases hx2:xl.length=2
    rotate_left
    ·refine wy ?_;rw[if_neg (hno (by simp[pairB,ST.b,ST.l,hx2]))];exact⟨.cn rfl rfl inferInstance rfl ⟨.inr rfl,.inr rfl,.inl rfl,.inl rfl,.inr rfl,trivial⟩,.d rfl (.inl rfl),trivial⟩
    obtain⟨y,z,rfl⟩:∃ y z,xl=[y,z]:=by
     match xl,hx2 with
     | [y,z],_=>exact⟨y,z,rfl⟩
    have hy0:[y,z][0]?=some y:=rfl;have hy1:[y,z][1]?=some z:=rfl;have hyl:[y,z].length=2:=rfl;have n1:=hN y (swXs_mem swx.2 y (by simp)) (!bxOK (ta.take j));have n2:=hN z (swXs_mem swx.2 z (by simp)) (!bxOK (ta.take j)||!(numX y).2);have hb1:bxOK (ta.take (j+1))=(bxOK (ta.take j)&&((numX y).2&&(numX z).2)):=by
     unfold bxOK;rw[htk,List.all_append];simp[sideX,ST.l]
    have ht1:((ta.take (j+1)).map fun x=>enSd (sideX x).1)=((ta.take j).map fun x=>enSd (sideX x).1)++[enR (numX y).1++enR (numX z).1]:=by
     rw[htk,List.map_append];rfl
    refine wy ?_;rw[hsub];refine wy ?_;refine cO (n1) ?_;refine wy ?_;rw[hsub];refine wy ?_;refine cO (n2) ?_;refine wy ?_;refine⟨j+1,⟨hj1,fun u hu=>?_⟩,by omega,⟨rfl,rfl,rfl,rfl,rfl,rfl,rfl,rfl,rfl,trivial⟩,⟨rfl,rfl,?_,?_,rfl,trivial⟩⟩
    ·rw[htk]at hu;rcases List.mem_append.1 hu with h | h
     ·exact hpj u h
     ·rw[List.mem_singleton.1 h];rfl
    ·rw[hb1,show (!(bxOK (ta.take j)&&((numX y).2&&(numX z).2)))=(!bxOK (ta.take j)||!(numX y).2||!(numX z).2)by cases bxOK (ta.take j)<;>cases (numX y).2<;>rfl];rfl
    ·rw[ht1];rfl
 ·obtain rfl:j=ta.length:=by omega
  rw[List.take_length]at hpj ⊢;have hall:ta.all pairB=true:=List.all_eq_true.2 hpj;have hF:=rpFormula (Kw:=Kw) b i _ f (Nat.lt_succ_self _) swf kf (.slice none 0 0) (!bxOK ta) [] (.inl ⟨rfl,rfl⟩) (by show 0+cX f≤_;omega);rw[List.nil_append,show ([]:List At).length=0 from rfl]at hF;have hat:=fmX_at i _ f (Nat.lt_succ_self _) 0;have hatl:=fmX_lenA i _ f (Nat.lt_succ_self _) 0;have hokT:=fmX_okT i _ f (Nat.lt_succ_self _) (by omega) 0;rw[show (!bxOK ta||!(fmX i f 0).2.2)=!(bxOK ta&&(fmX i f 0).2.2)by cases bxOK ta<;>cases (fmX i f 0).2.2<;>rfl]at hF;have hfin:∀ B,(bxOK ta&&(fmX i f 0).2.2)=B→(if ha=[98,111,120]∧hc=[98,97,100]∧ta.all pairB=true then(if (bxOK ta&&(fmX i f 0).2.2)=true then some (⟨ta.map fun x=>(sideX x).1,(fmX i f 0).2.1,(fmX i f 0).1⟩:PP)else none)else none)=if B=true then some ⟨ta.map fun x=>(sideX x).1,(fmX i f 0).2.1,(fmX i f 0).1⟩else none:=fun B h=>by rw[if_pos ⟨q1,q2,hall⟩,h]
  obtain⟨B,hB⟩:∃ B,(bxOK ta&&(fmX i f 0).2.2)=B:=⟨_,rfl⟩
  have hfin:=hfin B hB;rw[hB]at hF;have hck:=propCheck (k:=80004) ⟨ta.map fun x=>(sideX x).1,(fmX i f 0).2.1,(fmX i f 0).1⟩ i o ⟨fun s hs=>by
    obtain⟨x,hx,rfl⟩:=List.mem_map.1 hs;obtain⟨swx,_⟩:=hta x hx;have hp:=hpj x hx;obtain⟨xb,xw,xl⟩:=x;rw[swX_mk]at swx
    match xl,hp,swx with
    | [],hp,_=>exact⟨bz_bd (by rw[show (sideX (.mk xb xw [])).1.1=0 from rfl,bz_0];omega),bz_bd (by rw[show (sideX (.mk xb xw [])).1.2=0 from rfl,bz_0];omega)⟩
    | [_],hp,_=>exact⟨bz_bd (by rw[show (sideX (.mk xb xw [_])).1.1=0 from rfl,bz_0];omega),bz_bd (by rw[show (sideX (.mk xb xw [_])).1.2=0 from rfl,bz_0];omega)⟩
    | [y,z],hp,swx=>
      have h1:=swX_w (swXs_mem swx.2 y (by simp));have h2:=swX_w (swXs_mem swx.2 z (by simp));have h3:=getD_bz y.w;have h4:=getD_bz z.w;exact⟨bz_bd (show bz (numX y).1≤_ by unfold numX;dsimp only;omega),bz_bd (show bz (numX z).1≤_ by unfold numX;dsimp only;omega)⟩
    | _::_::_::_,hp,_=>exact⟨bz_bd (by rw[show (sideX (.mk xb xw (_::_::_::_))).1.1=0 from rfl,bz_0];omega),bz_bd (by rw[show (sideX (.mk xb xw (_::_::_::_))).1.2=0 from rfl,bz_0];omega)⟩,by dsimp only;rw[List.length_map];omega⟩ (by omega) ⟨by dsimp only;omega,fun a ha=>by have:=(hat a ha).2.1;omega⟩ hokT
  rw[show enPP ⟨ta.map fun x=>(sideX x).1,(fmX i f 0).2.1,(fmX i f 0).1⟩=[.l ((ta.map fun x=>(sideX x).1).map enSd),.l ((fmX i f 0).2.1.map enA)]++enF (fmX i f 0).1 from rfl,List.map_map]at hck;refine wy ?_;(first | intro K ms hms hK | intro K hK | skip);refine Chain.callO [36,122] hF rfl rfl rfl (by decide) rfl (rf_get rfl rfl) ⟨.inl rfl,.inl rfl,trivial⟩ (fun β a w hi w' hf=>hKW w' (hi.frTr (is:=[36,122]) rfl (rf_get rfl rfl) hf)) ?_;rintro post res ⟨x',hx',rfl,rfl⟩ _;refine Chain.frzIn 36 122 (boxR b 196 [.v (.int .i64 i),.l ((fmX i f 0).2.1.map enA),.v (.bool (!B))]) (by decide) rfl rfl (boxR_stable _ _ _) (fun S w h0 hb h=>boxR_put (cs:=rpC i x' (!B)) (j:=1) rfl S w h0 hb h) ?_;refine Chain.frzBox 16 0 rfl rfl rfl ?_;cases B with
  | false=>
    refine wy ?_;rw[hfin];exact⟨.cn rfl rfl inferInstance rfl ⟨.inr rfl,.inr rfl,.inl rfl,.inl rfl,.inr rfl,trivial⟩,.d rfl (.inl rfl),trivial⟩
  | true=>
    refine wy ?_;obtain⟨R,hR⟩:∃ R,chkPP ⟨ta.map fun x=>(sideX x).1,(fmX i f 0).2.1,(fmX i f 0).1⟩ i o=R:=⟨_,rfl⟩
    have hR':pChkE (chkT (fmX i f 0).1 (fmX i f 0).2.1.length) (ta.map fun x=>(sideX x).1) (fmX i f 0).2.1 i o=R:=hR;dsimp only;rw[hR'];by_cases h0:R=0
    ·refine wy ?_;rw[hfin,if_pos rfl];show ressOK _ _ _ (if chkPP _ i o=0 then _ else _);rw[hR,if_pos h0];exact⟨.cn rfl rfl inferInstance rfl ⟨.inl (by dsimp only;rw[List.map_map];rfl),.inl rfl,.inl rfl,.inl rfl,.inl rfl,trivial⟩,.d rfl (.inl rfl),trivial⟩
    ·refine wy ?_;rw[hfin,if_pos rfl];show ressOK _ _ _ (if chkPP _ i o=0 then _ else _);rw[hR,if_neg h0];exact⟨.cn rfl rfl inferInstance rfl ⟨.inr rfl,.inr rfl,.inl rfl,.inl rfl,.inr rfl,trivial⟩,.d rfl (.inl rfl),trivial⟩
def fineX(src:List UInt8):Prop:=∀ l r m,parseX (src.length+1) 0 src 0= .ok l r m→(∀s∈l,swX s)∧∀ c∈l,∀f,(headX c).2=[f]→fbX f∧wX f≤40000000
theorem propParse{Kw:World→Prop}[KSt Kw][KHas Kw MaxL](src:List UInt8)(i o:Int)(hf:fineX src):FnK Tryz.prog 42 Kw [.d (.v (.string (tx src))),.d (.v (.int .i64 i)),.d (.v (.int .i64 o))] (parPR src i o):=by
 have hp:=sexpParse src;unfold parX at hp;unfold parPR;by_cases hb:1000000<src.length
 ·rw[if_pos hb]at hp ⊢;exact parseE src i o 2 _ (by decide) hp
 rw[if_neg hb]at hp ⊢;have hsu:=parseX_suf (src.length+1) 0 src 0;have hc:=parseX_c (src.length+1) 0 src 0;have hn:=parseX_n (src.length+1) 0 src 0 (by decide) (by decide);have hf:=hf;unfold fineX at hf;cases hX:parseX (src.length+1) 0 src 0 with
 | bad e left=>
   rw[hX]at hp hsu;exact parseE src i o e _ hsu.1 hp
 | ok l r m=>
   rw[hX]at hp hc hn;have hc:m=0+cXs l:=hc;exact parseOK src i o l hp (by have:=hn.2;omega) (hf l r m hX).1 (hf l r m hX).2
end Go.Proofs.YthdkkpocihkgbaaGreatDoor
