import Derived.Test.YthdkkpocihkgbaaGreatDoorPrO
set_option maxRecDepth 100000
set_option maxHeartbeats 8000000
namespace Go.Proofs.YthdkkpocihkgbaaGreatDoor
open Go.RowKit
attribute [local irreducible] AC Do St
theorem FnK.to{P:Program}{f:FuncId}{K K':World→Prop}{args res:List DV}(h:FnK P f K args res)(hk:∀ w,K' w→K w):FnK P f K' args res:=⟨h.body,fun S w vs h'=>h.run S w vs (hk w h')⟩
def opW(op:Int):List UInt8:=if op=1 then [60,61]else if op=2 then [60]else [61]
def wdT(w:List UInt8):ST:= .mk true w []
def tmT(i:Int)(t:Tm):ST:= .mk false [] [wdT [42],wdT (printL t.2),wdT (nameX t.1 i)]
noncomputable def cmpT (i:Int)(a:At):ST:= .mk false [] [wdT (opW a.op),.mk false [] (wdT [43]::(canL a.e.t).map (tmT i)),wdT (printL (-a.e.c))]
theorem form_coef:∀ {o:List Tm} {t:Tm},Form o→t∈o→coef o t.1=t.2
 | [],t,_,h=>nomatch h
 | u::o,t,h1,ht=>by
   rcases List.mem_cons.1 ht with h3 | h3
   ·rw[h3];exact h1.head
   ·have:=(List.pairwise_cons.1 h1.1).1 t h3;rw[coef,if_neg (by omega),form_coef h1.tail h3];grind
theorem canL_mem{l:List Tm}{t:Tm}(h:t∈canL l):∃ u∈l,u.1=t.1:=by
 obtain⟨h1,h2,_⟩:=canL_spec l;refine coef_ne_mem ?_;rw[←h2,form_coef h1 h];exact h1.2 t h
def fitA(a:At):Prop:=okOp a.op∧tb a.e.t≤100000∧bz a.e.c≤100000∧∀ t∈a.e.t,0≤t.1∧t.1≤1000000
theorem propCompared(a:At)(i:Int)(hi:0≤i∧i≤1000000)(hf:fitA a):FnK Tryz.prog 146 Tab [.g (enA a),.d (.v (.int .i64 i))] [.g (enX (cmpT i a))]:=by
 obtain⟨ho,h1,h2,h3⟩:=hf;have hb:=tb_canL a.e.t;have hv:∀ t∈canL a.e.t,0≤t.1∧t.1≤1000000:=fun t ht=>by
  obtain⟨u,hu,e⟩:=canL_mem ht;have:=h3 u hu;omega
 have hbz:∀ t∈canL a.e.t,bz t.2≤100000:=fun t ht=>by have:=tb_mem ht;omega
 have hlen:=tb_len (canL a.e.t);have hcan:=canTF a.e (by omega);have hneg:=ratNeg a.e.c;have hnum:=propNumber (k:=100000) (-a.e.c) (bz_bd (by rw[bz_neg];exact h2)) (by decide);have hlit:([[.v (.string (tx []))],[.v (.string (tx [60,61]))],[.v (.string (tx [60]))],[.v (.string (tx [61]))]]:List (List D))[a.op.toNat]?=some [.v (.string (tx (opW a.op)))]:=by
  unfold okOp at ho;have:a.op=1∨a.op=2∨a.op=3:=by omega
  rcases this with h | h | h<;>rw[h]<;>rfl
 have hop0:a.op=(a.op.toNat:Int):=by unfold okOp at ho;omega
 unfold cmpT;generalize canL a.e.t=cl at hb hv hbz hlen hcan ⊢;obtain⟨⟨ts,c⟩,op⟩:=a;dsimp only at hcan hneg hnum hlit hop0 ⊢;rw[show enA ⟨⟨ts,c⟩,op⟩=enE ⟨ts,c⟩++[.v (.int .i64 op)]from rfl];have hml:(cl.map enT).length=cl.length:=List.length_map ..;refine FnK.of Tryz.func146 rfl (by kernel_rfl) Tryz.ntmps146 Tryz.results146 rfl fun w0 S0 hK0=>?_;refine wn ?_;refine c1 hcan ?_;refine wn ?_;refine c1 (sexpWord [43]) ?_;((try (first | intro K ms hms hK | intro K hK));(first | apply Chain.ef | apply Chain.efD);exact rfl;exact rfl;exact Do.litR rfl rfl rfl rfl rfl rfl rfl rfl;exact rfl;exact rfl);refine wn ?_;refine AC.loop (X:=Nat) (fun j=>⟨[(1,.d (.v (.int .i64 i))),(2,.p 2 0),(4,.p 4 0),(5,.p 5 0),(6,.r 13 j),(15,.d (.l (cl.map enT))),(16,.d (.v (.int .i64 (cl.length:Int)))),(17,.d (.v (.int .i64 (j:Int))))],[(2,.box 157 ((enE ⟨ts,c⟩++[D.v (.int .i64 op)]).map .d)),(4,.box 188 [.d (.v (.bool false)),.d (.v (.string ⟨#[]⟩)),.d .n]),(5,.box 155 ((enE ⟨cl,c⟩).map .d)),(13,.row j 188 3 ((wdT [43]::(cl.take j).map (tmT i)).map enX))]⟩) (fun j=>j≤cl.length) (fun j=>cl.length-j) 0 (Nat.zero_le _) ⟨rfl,rfl,rfl,rfl,rfl,rfl,rfl,rfl,trivial⟩ ⟨rfl,rfl,rfl,rfl,trivial⟩ ?_;intro j hj;dsimp only at hj ⊢;refine wn ?_;refine s1 (fun g1=>?_) (fun g1=>?_)
 ·have hj1:j<cl.length:=by omega
  have hg:cl[j]?=some cl[j]:=List.getElem?_eq_getElem hj1;have hmj:cl[j]∈cl:=List.getElem_mem hj1;have hts:(wdT [43]::(cl.take (j+1)).map (tmT i)).map enX=(wdT [43]::(cl.take j).map (tmT i)).map enX++[enX (tmT i cl[j])]:=by
   rw[List.take_succ_eq_append_getElem hj1];simp only[List.map_cons,List.map_append,List.map_nil,List.cons_append]
  have v1:=hv _ hmj;have v2:=hbz _ hmj;generalize cl[j]=t at hg hts v1 v2;obtain⟨tv,tc⟩:=t;dsimp only at v1 v2;refine wn ?_;refine c1 (sexpWord [42]) ?_;refine wn ?_;refine c1 (propNumber (k:=100000) tc (bz_bd v2) (by decide)) ?_;refine wn ?_;refine c1 (propName tv i v1 hi) ?_;((try (first | intro K ms hms hK | intro K hK));(first | apply Chain.go | apply Chain.goD);exact rfl;exact rfl;exact Loc.litP rfl rfl rfl rfl rfl rfl rfl);refine c1 (sexpRow [wdT [42],wdT (printL tc),wdT (nameX tv i)] (by simp)) ?_;((try (first | intro K ms hms hK | intro K hK));(first | apply Chain.go | apply Chain.goD);exact rfl;exact rfl;exact Loc.litP rfl rfl rfl rfl rfl rfl rfl);refine wn ?_;exact⟨j+1,hj1,by omega,⟨rfl,rfl,rfl,rfl,rfl,rfl,rfl,rfl,trivial⟩,⟨rfl,rfl,rfl,by rw[hts];rfl,trivial⟩⟩
 ·obtain rfl:j=cl.length:=by omega
  rw[List.take_length];have hrow:=sexpRow [wdT (opW op),.mk false [] (wdT [43]::cl.map (tmT i)),wdT (printL (-c))] (by simp);rw[List.map_cons,List.map_cons,List.map_cons,List.map_nil,enX_mk false [] (wdT [43]::cl.map (tmT i))]at hrow;(first | intro K ms hms hK | intro K hK | skip);refine Chain.frzVar 6 rfl rfl ?_;refine wk ?_;((try (first | intro K ms hms hK | intro K hK));(first | apply Chain.go | apply Chain.goD);exact rfl;exact rfl;exact Loc.idx (i:=op.toNat) (cs:=[.v (.string (tx (opW op)))]) rfl rfl rfl hop0 hlit rfl);refine wk ?_;refine c1 (sexpWord (opW op)) ?_;refine wk ?_;refine c1 hneg ?_;refine c1 hnum ?_;refine wk ?_;refine c1 hrow ?_;refine wk ?_;exact⟨.cn rfl rfl inferInstance rfl ⟨.inl rfl,.inl rfl,.inl rfl,trivial⟩,trivial⟩
def kindW(k:Int):List UInt8:=if k=2 then [110,111,116]else if k=3 then [97,110,100]else [111,114]
def atZ:At:=⟨⟨[],0⟩,1⟩
mutual
noncomputable def tolX (ats:List At)(i:Int):FT→ST
 | .mk k a s=>if k=1 then cmpT i (ats.getD a.toNat atZ)else if k=5 then wdT [116,114,117,101]else if k=6 then wdT [102,97,108,115,101]else .mk false [] (wdT (kindW k)::tolXs ats i s)
noncomputable def tolXs (ats:List At)(i:Int):List FT→List ST
 | []=>[]
 | f::r=>tolX ats i f::tolXs ats i r
end
theorem tolX_mk(ats:List At)(i k a:Int)(s:List FT):tolX ats i (.mk k a s)=if k=1 then cmpT i (ats.getD a.toNat atZ)else if k=5 then wdT [116,114,117,101]else if k=6 then wdT [102,97,108,115,101]else .mk false [] (wdT (kindW k)::tolXs ats i s):=by rw[tolX]
theorem tolXs_map(ats:List At)(i:Int):∀ s:List FT,tolXs ats i s=s.map (tolX ats i)
 | []=>by rw[tolXs];rfl
 | f::r=>by rw[tolXs,tolXs_map ats i r];rfl
theorem shT_k{k a:Int}{s:List FT}{n:Int}(h:shT (.mk k a s) n=true):1≤k∧k≤6:=by
 rw[shT]at h;by_cases h1:1≤k∧k≤6
 ·exact h1
 ·exfalso
  repeat' split at h
  all_goals first | omega | cases h
theorem ndTs_len:∀ s:List FT,(s.length:Int)≤ndTs s
 | []=>by rw[ndTs];exact Int.le_refl _
 | f::r=>by have:=ndTs_len r;have:=ndT_pos f;rw[ndTs];simp only[List.length_cons];omega
theorem ndTs_mem:∀ {s:List FT} {g:FT},g∈s→ndT g≤ndTs s
 | f::r,g,h=>by
   rw[ndTs];have:=ndTs_pos r;have:=ndT_pos f;rcases List.mem_cons.1 h with rfl | h
   ·omega
   ·have:=ndTs_mem h;omega
theorem ndT_mk(k a:Int)(s:List FT):ndT (.mk k a s)=1+ndTs s:=by rw[ndT]
theorem propTold(p:PP)(i:Int)(hi:0≤i∧i≤1000000)(hf:∀ a∈p.ats,fitA a):∀ (n:Nat) (f:FT),szT f<n→okT f→ndT f≤20000→shT f p.ats.length=true→FnK Tryz.prog 90 Tab [.g (enPP p),.g (enF f),.d (.v (.int .i64 i))] [.g (enX (tolX p.ats i f))]:=by
 intro n
 induction n with
 | zero=>intro f h;omega
 | succ n ih=>
 intro f hm hok hnd hsh;obtain⟨k,a,s⟩:=f;obtain⟨hsl,hsg⟩:=okT_mk hok;have hk:=shT_k hsh;rw[ndT_mk]at hnd;have hsl2:=ndTs_len s;obtain⟨bx,ats,bad⟩:=p;dsimp only at hf ih hsh ⊢;rw[show enPP ⟨bx,ats,bad⟩=[.l (bx.map enSd),.l (ats.map enA)]++enF bad from rfl,tolX_mk,enF_mk];have hml:(ats.map enA).length=ats.length:=List.length_map ..;have hsm:(s.map enF).length=s.length:=List.length_map ..;by_cases k1:k=1
 ·subst k1;obtain⟨a0,a1⟩:=shT_1 hsh;have hal:a.toNat<ats.length:=by omega
  have hg:ats[a.toNat]?=some ats[a.toNat]:=List.getElem?_eq_getElem hal;have hc:=propCompared ats[a.toNat] i hi (hf _ (List.getElem_mem hal));rw[if_pos rfl,List.getD_eq_getElem?_getD,hg,Option.getD_some];generalize ats[a.toNat]=at' at hg hc ⊢;refine FnK.of Tryz.func90 rfl (by kernel_rfl) Tryz.ntmps90 Tryz.results90 rfl fun w0 S0 hK0=>?_;refine wk ?_;((try (first | intro K ms hms hK | intro K hK));(first | apply Chain.go | apply Chain.goD);exact rfl;exact rfl;exact Loc.idxM (i:=a.toNat) rfl rfl rfl (by omega) hg rfl);refine wk ?_;refine c1 hc ?_;refine wk ?_;exact⟨.cn rfl rfl inferInstance rfl ⟨.inl rfl,.inl rfl,.inl rfl,trivial⟩,trivial⟩
 rw[if_neg k1];by_cases k5:k=5
 ·subst k5;rw[if_pos rfl];refine FnK.of Tryz.func90 rfl (by kernel_rfl) Tryz.ntmps90 Tryz.results90 rfl fun w0 S0 hK0=>?_;refine wk ?_;refine c1 (sexpWord [116,114,117,101]) ?_;refine wk ?_;exact⟨.cn rfl rfl inferInstance rfl ⟨.inl rfl,.inl rfl,.inl rfl,trivial⟩,trivial⟩
 rw[if_neg k5];by_cases k6:k=6
 ·subst k6;rw[if_pos rfl];refine FnK.of Tryz.func90 rfl (by kernel_rfl) Tryz.ntmps90 Tryz.results90 rfl fun w0 S0 hK0=>?_;refine wk ?_;refine c1 (sexpWord [102,97,108,115,101]) ?_;refine wk ?_;exact⟨.cn rfl rfl inferInstance rfl ⟨.inl rfl,.inl rfl,.inl rfl,trivial⟩,trivial⟩
 rw[if_neg k6];have hk2:k=2∨k=3∨k=4:=by omega
 have hlit:([[.v (.string (tx []))],[.v (.string (tx []))],[.v (.string (tx [110,111,116]))],[.v (.string (tx [97,110,100]))],[.v (.string (tx [111,114]))]]:List (List D))[k.toNat]?=some [.v (.string (tx (kindW k)))]:=by
  rcases hk2 with h | h | h<;>rw[h]<;>rfl
 have hk0:k=(k.toNat:Int):=by omega
 have hsub:∀ g∈s,szT g<n∧okT g∧ndT g≤20000∧shT g ats.length=true:=fun g hg=>by
  refine⟨by have:=FT.lt (k:=k) (a:=a) hg;omega,hsg g hg,by have:=ndTs_mem hg;omega,?_⟩;rcases hk2 with h | h | h
  ·subst h;exact(shT_2 hsh).2 g hg
  ·exact shT_3 (.inl h) hsh g hg
  ·exact shT_3 (.inr h) hsh g hg
 rw[tolXs_map,enX_mk];refine FnK.of Tryz.func90 rfl (by kernel_rfl) Tryz.ntmps90 Tryz.results90 rfl fun w0 S0 hK0=>?_;refine wn ?_;((try (first | intro K ms hms hK | intro K hK));(first | apply Chain.go | apply Chain.goD);exact rfl;exact rfl;exact Loc.litP rfl rfl rfl rfl rfl rfl rfl);refine wn ?_;((try (first | intro K ms hms hK | intro K hK));(first | apply Chain.go | apply Chain.goD);exact rfl;exact rfl;exact Loc.idx (i:=k.toNat) (cs:=[.v (.string (tx (kindW k)))]) rfl rfl rfl hk0 hlit rfl);refine wn ?_;refine c1 (sexpWord (kindW k)) ?_;((try (first | intro K ms hms hK | intro K hK));(first | apply Chain.ef | apply Chain.efD);exact rfl;exact rfl;exact Do.litR rfl rfl rfl rfl rfl rfl rfl rfl;exact rfl;exact rfl);refine wn ?_;refine AC.loop (X:=Nat) (fun j=>⟨[(2,.d (.v (.int .i64 i))),(3,.p 3 0),(4,.p 4 0),(6,.p 6 0),(7,.r 34 j),(36,.d (.l (s.map enF))),(37,.d (.v (.int .i64 (s.length:Int)))),(38,.d (.v (.int .i64 (j:Int))))],[(3,.box 83 (([D.l (bx.map enSd),D.l (ats.map enA)]++enF bad).map .d)),(6,.box 188 [.d (.v (.bool false)),.d (.v (.string ⟨#[]⟩)),.d .n]),(34,.row j 188 3 ((wdT (kindW k)::(s.take j).map (tolX ats i)).map enX))]⟩) (fun j=>j≤s.length) (fun j=>s.length-j) 0 (Nat.zero_le _) ⟨rfl,rfl,rfl,rfl,rfl,rfl,rfl,rfl,trivial⟩ ⟨rfl,rfl,rfl,trivial⟩ ?_;intro j hj;dsimp only at hj ⊢;refine wn ?_;refine s1 (fun g1=>?_) (fun g1=>?_)
 ·have hj1:j<s.length:=by omega
  have hg:s[j]?=some s[j]:=List.getElem?_eq_getElem hj1;obtain⟨q1,q2,q4,q3⟩:=hsub _ (List.getElem_mem hj1);have hts:(wdT (kindW k)::(s.take (j+1)).map (tolX ats i)).map enX=(wdT (kindW k)::(s.take j).map (tolX ats i)).map enX++[enX (tolX ats i s[j])]:=by
   rw[List.take_succ_eq_append_getElem hj1];simp only[List.map_cons,List.map_append,List.map_nil,List.cons_append]
  have hi2:=ih s[j] q1 q2 q4 q3;generalize s[j]=g at hg hts hi2;refine wn ?_;refine c1 hi2 ?_;((try (first | intro K ms hms hK | intro K hK));(first | apply Chain.go | apply Chain.goD);exact rfl;exact rfl;exact Loc.litP rfl rfl rfl rfl rfl rfl rfl);refine wn ?_;exact⟨j+1,hj1,by omega,⟨rfl,rfl,rfl,rfl,rfl,rfl,rfl,rfl,trivial⟩,⟨rfl,rfl,by rw[hts];rfl,trivial⟩⟩
 ·obtain rfl:j=s.length:=by omega
  rw[List.take_length];(first | intro K ms hms hK | intro K hK | skip);refine Chain.frzVar 7 rfl rfl ?_;refine wk ?_;exact⟨.cn rfl rfl inferInstance rfl ⟨.inl rfl,.inl rfl,.inl rfl,trivial⟩,trivial⟩
def sdT(s:Rat×Rat):ST:= .mk false [] [wdT (printL s.1),wdT (printL s.2)]
noncomputable def rowsP (p:PP)(i:Int):List ST:=[.mk false [] (wdT [98,111,120]::p.box.map sdT),.mk false [] [wdT [98,97,100],tolX p.ats i p.bad]]
def noTx(e:Int):List DV:=[.d (.v (.string (tx []))),.d (.v (.int .i64 e))]
noncomputable def prtR (p:PP)(i o:Int):List DV:=if pChkE (chkT p.bad p.ats.length) p.box p.ats i o≠0 then noTx (pChkE (chkT p.bad p.ats.length) p.box p.ats i o)else if chX (rowsP p i)≠0∨1000000<(allX (rowsP p i)).length then noTx 2 else [.d (.v (.string (tx (allX (rowsP p i))))),.d (.v (.int .i64 0))]
theorem propPrint(p:PP)(i o:Int)(hp:bdPP 100000 p)(hlp:lenPP p)(hok:okT p.bad)(hf:pChkE (chkT p.bad p.ats.length) p.box p.ats i o=0→(0≤i∧i≤1000000)∧ndT p.bad≤20000∧shT p.bad p.ats.length=true∧(∀a∈p.ats,fitA a)∧okXs (rowsP p i)∧(allX (rowsP p i)).length≤1000000000000):FnK Tryz.prog 41 Tab [.g (enPP p),.d (.v (.int .i64 i)),.d (.v (.int .i64 o))] (prtR p i o):=by
 have hck:=propCheck p i o hp (by decide) hlp hok;unfold prtR;obtain⟨R,hR⟩:∃ R,pChkE (chkT p.bad p.ats.length) p.box p.ats i o=R:=⟨_,rfl⟩
 rw[hR]at hck hf ⊢;have hpp:enPP p=[.l (p.box.map enSd),.l (p.ats.map enA)]++enF p.bad:=rfl;by_cases h0:R≠0
 ·rw[if_pos h0];rw[hpp]at hck ⊢;refine FnK.of Tryz.func41 rfl (by kernel_rfl) Tryz.ntmps41 Tryz.results41 rfl fun w0 S0 hK0=>?_;refine wn ?_;refine c1 hck ?_;refine wn ?_;exact⟨.d rfl (.inl rfl),.d rfl (.inl rfl),trivial⟩
 rw[if_neg h0];have h0':R=0:=Classical.byContradiction h0;obtain⟨hi,hnd,hsh,hfa,hox,hlen⟩:=hf h0';have htl:=propTold p i hi hfa _ p.bad (Nat.lt_succ_self _) hok hnd hsh;have hpr:=sexpPrint (rowsP p i) (by simp[rowsP]) hox hlen;unfold prX at hpr;have hrows:(rowsP p i).map enX=[[.v (.bool false),.v (.string (tx [])),.l ((wdT [98,111,120]::p.box.map sdT).map enX)],enX (.mk false [] [wdT [98,97,100],tolX p.ats i p.bad])]:=by
  unfold rowsP;rw[List.map_cons,List.map_cons,List.map_nil,enX_mk false [] (wdT [98,111,120]::p.box.map sdT)]
 rw[hrows]at hpr;generalize allX (rowsP p i)=T at hpr hlen ⊢;obtain⟨e,he⟩:∃ e,chX (rowsP p i)=e:=⟨_,rfl⟩
 rw[he]at hpr ⊢;clear hox he hrows hf hR;have hrow:=sexpRow [wdT [98,97,100],tolX p.ats i p.bad] (by simp);have hsd:=hp.1;have hbl:=hp.2;rw[hpp]at hck htl ⊢;clear hpp;have hsm:(p.box.map enSd).length=p.box.length:=List.length_map ..;generalize tolX p.ats i p.bad=TT at htl hpr hrow;obtain⟨bx,ats,bad⟩:=p;dsimp only at hck htl hsd hbl hsm ⊢;refine FnK.of Tryz.func41 rfl (by kernel_rfl) Tryz.ntmps41 Tryz.results41 rfl fun w0 S0 hK0=>?_;refine wn ?_;refine c1 hck ?_;refine wn ?_;refine c1 (sexpWord [98,111,120]) ?_;((try (first | intro K ms hms hK | intro K hK));(first | apply Chain.ef | apply Chain.efD);exact rfl;exact rfl;exact Do.litR rfl rfl rfl rfl rfl rfl rfl rfl;exact rfl;exact rfl);refine wn ?_;refine AC.loop (X:=Nat) (fun j=>⟨[(1,.d (.v (.int .i64 i))),(2,.d (.v (.int .i64 o))),(3,.p 3 0),(9,.r 22 j),(24,.d (.l (bx.map enSd))),(25,.d (.v (.int .i64 (bx.length:Int)))),(26,.d (.v (.int .i64 (j:Int))))],[(3,.box 83 (([D.l (bx.map enSd),D.l (ats.map enA)]++enF bad).map .d)),(22,.row j 188 3 ((wdT [98,111,120]::(bx.take j).map sdT).map enX))]⟩) (fun j=>j≤bx.length) (fun j=>bx.length-j) 0 (Nat.zero_le _) ⟨rfl,rfl,rfl,rfl,rfl,rfl,rfl,trivial⟩ ⟨rfl,rfl,trivial⟩ ?_;intro j hj;dsimp only at hj ⊢;refine wn ?_;refine s1 (fun g1=>?_) (fun g1=>?_)
 ·have hj1:j<bx.length:=by omega
  have hg:bx[j]?=some bx[j]:=List.getElem?_eq_getElem hj1;obtain⟨q1,q2⟩:=hsd _ (List.getElem_mem hj1);have hts:(wdT [98,111,120]::(bx.take (j+1)).map sdT).map enX=(wdT [98,111,120]::(bx.take j).map sdT).map enX++[enX (sdT bx[j])]:=by
   rw[List.take_succ_eq_append_getElem hj1];simp only[List.map_cons,List.map_append,List.map_nil,List.cons_append]
  generalize bx[j]=g at hg hts q1 q2;obtain⟨lo,hi'⟩:=g;dsimp only at q1 q2;refine wn ?_;refine c1 (propNumber lo q1 (by decide)) ?_;refine wn ?_;refine c1 (propNumber hi' q2 (by decide)) ?_;((try (first | intro K ms hms hK | intro K hK));(first | apply Chain.go | apply Chain.goD);exact rfl;exact rfl;exact Loc.litP rfl rfl rfl rfl rfl rfl rfl);refine c1 (sexpRow [wdT (printL lo),wdT (printL hi')] (by simp)) ?_;((try (first | intro K ms hms hK | intro K hK));(first | apply Chain.go | apply Chain.goD);exact rfl;exact rfl;exact Loc.litP rfl rfl rfl rfl rfl rfl rfl);refine wn ?_;exact⟨j+1,hj1,by omega,⟨rfl,rfl,rfl,rfl,rfl,rfl,rfl,trivial⟩,⟨rfl,by rw[hts];rfl,trivial⟩⟩
 ·obtain rfl:j=bx.length:=by omega
  rw[List.take_length];(first | intro K ms hms hK | intro K hK | skip);refine Chain.frzVar 9 rfl rfl ?_;refine wk ?_;refine c1 (sexpWord [98,97,100]) ?_;refine wk ?_;refine c1 htl ?_;refine wk ?_;refine c1 hrow ?_;refine wk ?_;by_cases he:e=0
  ·rw[if_pos he]at hpr;refine c1 hpr ?_;refine wk ?_;((try (first | intro K ms hms hK | intro K hK));(first | apply Chain.go | apply Chain.goD);exact rfl;exact rfl;exact Loc.strLen rfl rfl (by kernel_rfl));rw[tx_size];by_cases hT:1000000<T.length
   ·refine wk ?_;rw[if_pos (.inr hT)];exact⟨.d rfl (.inl rfl),.d rfl (.inl rfl),trivial⟩
   ·refine wk ?_;rw[if_neg (fun h=>h.elim (fun h=>h he) hT)];exact⟨.d rfl (.inl rfl),.d rfl (.inl rfl),trivial⟩
  ·rw[if_neg he]at hpr;refine c1 hpr ?_;refine wk ?_;rw[if_pos (.inl he)];exact⟨.d rfl (.inl rfl),.d rfl (.inl rfl),trivial⟩
end Go.Proofs.YthdkkpocihkgbaaGreatDoor
