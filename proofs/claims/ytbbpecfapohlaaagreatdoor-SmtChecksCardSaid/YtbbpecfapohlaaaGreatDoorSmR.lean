import Derived.Test.YtbbpecfapohlaaaGreatDoorSmS
import Derived.Test.YtbbpecfapohlaaaGreatDoorSmB
namespace Go.Proofs.YtbbpecfapohlaaaGreatDoor
open Go.RowKit
attribute [local irreducible] AC Do St
theorem wordA(w:List UInt8):Fn Tryz.prog 151 [.d (.v (.string (tx w)))] [.g [.v (.bool true),.v (.string (tx w)),.l []]]:=by
 have:=sexpWord w
 rw[enX_mk]at this
 exact this
theorem enX_lst(l:List ST):enX (lstT l)=[.v (.bool false),.v (.string (tx [])),.l (l.map enX)]:=enX_mk _ _ _
section
variable {Kw:World→Prop}[KSt Kw][KHas Kw Tab]
theorem Loc.callVG{P:Program}{C:Cx}{o:Oper}{σ:AS}{f:FuncId}{args:List DV}{ds:List D}{c:Operand}{xs:Array Operand}{ts:Array TypeId}(hF:Fn P f args [.g ds])(ho:o.op= .call {callee:= .value c,args:=xs,argTypes:=ts })(hc:ev σ c= .d (.v (.func (.func f) #[] #[])))(ha:argsOK σ xs.toList args):Loc P C o σ (.g ds):=Loc.callV hF ho hc ha
set_option maxRecDepth 100000 in
set_option maxHeartbeats 16000000 in
theorem smtRows(p:SP)(hp:OkSP p)(hl:Loose p):FnK Tryz.prog 108 Kw [.g (enSP p)] [.d (.l ((rowT p).map enX))]:=by
 have han:=hp.an
 have hcn:=hp.cn
 have hr0:=hl.r
 have hb0:=hl.b
 have hg:=hl.g
 unfold greatP at hg
 have hr1:p.r≤400:=by omega
 have hb1:p.b≤1000:=by omega
 have hOk:=hp.a
 have hIn:=hl.a
 have hcl:=hp.cl
 have hlc:=hl.c
 have hlit:=fun l (h:okLi l)=>smtLit (Kw:=Kw) p l hb0 hb1 h
 clear hp hl hg
 have hword:=fun w=>wordA w
 have hrow0:=sexpRow [] (by simp)
 have hrow1:=fun a:ST=>sexpRow [a] (by simp)
 have hrow2:=fun a b:ST=>sexpRow [a,b] (by simp)
 have hrow3:=fun a b c:ST=>sexpRow [a,b,c] (by simp)
 have hrow5:=fun a b c d e:ST=>sexpRow [a,b,c,d,e] (by simp)
 have hml:∀ l:List ST,(l.map enX).length=l.length:=fun l=>List.length_map ..
 have hla:(p.a.map enA).length=p.a.length:=List.length_map ..
 have hlcc:(p.c.map enCl).length=p.c.length:=List.length_map ..
 obtain⟨rn,hrn⟩:∃ rn:Nat,p.r=rn:=⟨p.r.toNat,by omega⟩
 obtain⟨bn,hbn⟩:∃ bn:Nat,p.b=bn:=⟨p.b.toNat,by omega⟩
 have h00:rl0.map enX=[[.v (.bool false),.v (.string (tx [])),.l ([wdA slW,wdA qfW].map enX)]]:=by unfold rl0;rw[List.map_cons,enX_lst];rfl
 refine FnK.of Tryz.func108 rfl (by kernel_rfl) Tryz.ntmps108 Tryz.results108 rfl fun w0 S0 hK0=>?_
 refine wn ?_
 ((try (first | intro K ms hms hK | intro K hK));(first | apply Chain.go | apply Chain.goD);exact rfl;exact rfl;refine Loc.callVG (hword slW) rfl rfl ?_;(repeat (first | exact trivial | refine⟨.inl rfl,?_⟩ | refine⟨.inr rfl,?_⟩)))
 refine wn ?_
 ((try (first | intro K ms hms hK | intro K hK));(first | apply Chain.go | apply Chain.goD);exact rfl;exact rfl;refine Loc.callVG (hword qfW) rfl rfl ?_;(repeat (first | exact trivial | refine⟨.inl rfl,?_⟩ | refine⟨.inr rfl,?_⟩)))
 refine wn ?_
 ((try (first | intro K ms hms hK | intro K hK));(first | apply Chain.go | apply Chain.goD);exact rfl;exact rfl;exact Loc.litP rfl rfl rfl rfl rfl rfl rfl)
 refine wn ?_
 refine c1 (hrow2 (wdA slW) (wdA qfW)) ?_
 refine wn ?_
 ((try (first | intro K ms hms hK | intro K hK));(first | apply Chain.ef | apply Chain.efD);exact rfl;exact rfl;exact Do.litR rfl rfl rfl rfl rfl rfl rfl rfl;exact rfl;exact rfl)
 refine wn ?_
 refine AC.loop (X:=Nat×Nat) (fun x=>⟨[(1,.p 1 0),(2,.d .n),(3,.d (.v (.func (.func 151) #[] #[]))),(4,.r 22 x.2),(24,.d (.v (.int .i64 p.r))),(25,.d (.v (.int .i64 (x.1:Int))))],[(1,.box 29 ((enSP p).map .d)),(22,.row x.2 98 3 ((rl1 x.1).map enX))]⟩) (fun x=>x.1≤rn) (fun x=>rn-x.1) (0,0) (Nat.zero_le _) ⟨rfl,rfl,rfl,rfl,rfl,rfl,trivial⟩ ⟨rfl,by dsimp only;rw[show rl1 0=rl0 from List.append_nil _,h00];rfl,trivial⟩ ?_
 intro ⟨i,n⟩ hi
 dsimp only at hi ⊢
 by_cases h1:i<rn
 ·have hs:(rl1 (i+1)).map enX=(rl1 i).map enX++[[.v (.bool false),.v (.string (tx [])),.l ([wdA decW,nmA 120 i,wdA realW].map enX)]]:=by
   rw[rl1_succ,List.map_append]
   unfold reaT
   rw[List.map_cons,List.map_nil,enX_lst]
  have hle:((rl1 i).map enX).length=i+1:=by unfold rl1 rl0;simp
  generalize (rl1 i).map enX=G at hs hle ⊢
  have hnm:=smtName (Kw:=Kw) 120 (i:Int) (by omega) (by omega)
  have hro:=hrow3 (wdA decW) (nmA 120 i) (wdA realW)
  clear hrow0 hrow1 hrow2 hrow3 hrow5 hlit
  refine wa ?_
  ((try (first | intro K ms hms hK | intro K hK));(first | apply Chain.go | apply Chain.goD);exact rfl;exact rfl;refine Loc.callVG (hword decW) rfl rfl ?_;(repeat (first | exact trivial | refine⟨.inl rfl,?_⟩ | refine⟨.inr rfl,?_⟩)))
  refine wa ?_
  ((try (first | intro K ms hms hK | intro K hK));(first | apply Chain.go | apply Chain.goD);exact rfl;exact rfl;refine Loc.callVG (hword realW) rfl rfl ?_;(repeat (first | exact trivial | refine⟨.inl rfl,?_⟩ | refine⟨.inr rfl,?_⟩)))
  refine wa ?_
  exact⟨(i+1,n+1),h1,by dsimp only;omega,⟨rfl,rfl,rfl,rfl,rfl,rfl,trivial⟩,⟨rfl,by dsimp only;rw[hs];rfl,trivial⟩⟩
 ·obtain rfl:i=rn:=by omega
  refine wa ?_
  refine AC.loop (X:=Nat×Nat) (fun x=>⟨[(1,.p 1 0),(2,.d .n),(3,.d (.v (.func (.func 151) #[] #[]))),(4,.r 22 x.2),(41,.d (.v (.int .i64 p.b))),(42,.d (.v (.int .i64 (x.1:Int))))],[(1,.box 29 ((enSP p).map .d)),(22,.row x.2 98 3 ((rl2 i x.1).map enX))]⟩) (fun x=>x.1≤bn) (fun x=>bn-x.1) (0,n) (Nat.zero_le _) ⟨rfl,rfl,rfl,rfl,rfl,rfl,trivial⟩ ⟨rfl,by dsimp only;rw[show rl2 i 0=rl1 i from List.append_nil _];rfl,trivial⟩ ?_
  intro ⟨j,m⟩ hj
  dsimp only at hj ⊢
  by_cases h2:j<bn
  ·have hs:(rl2 i (j+1)).map enX=(rl2 i j).map enX++[[.v (.bool false),.v (.string (tx [])),.l ([wdA decW,nmA 112 j,wdA boolW].map enX)]]:=by
    rw[rl2_succ,List.map_append]
    unfold booT
    rw[List.map_cons,List.map_nil,enX_lst]
   have hle:((rl2 i j).map enX).length=i+1+j:=by unfold rl2 rl1 rl0;simp;omega
   generalize (rl2 i j).map enX=G at hs hle ⊢
   have hnm:=smtName (Kw:=Kw) 112 (j:Int) (by omega) (by omega)
   have hro:=hrow3 (wdA decW) (nmA 112 j) (wdA boolW)
   clear hrow0 hrow1 hrow2 hrow3 hrow5 hlit
   refine wa ?_
   ((try (first | intro K ms hms hK | intro K hK));(first | apply Chain.go | apply Chain.goD);exact rfl;exact rfl;refine Loc.callVG (hword decW) rfl rfl ?_;(repeat (first | exact trivial | refine⟨.inl rfl,?_⟩ | refine⟨.inr rfl,?_⟩)))
   refine wa ?_
   ((try (first | intro K ms hms hK | intro K hK));(first | apply Chain.go | apply Chain.goD);exact rfl;exact rfl;refine Loc.callVG (hword boolW) rfl rfl ?_;(repeat (first | exact trivial | refine⟨.inl rfl,?_⟩ | refine⟨.inr rfl,?_⟩)))
   refine wa ?_
   exact⟨(j+1,m+1),h2,by dsimp only;omega,⟨rfl,rfl,rfl,rfl,rfl,rfl,trivial⟩,⟨rfl,by dsimp only;rw[hs];rfl,trivial⟩⟩
  ·obtain rfl:j=bn:=by omega
   have hRt:i=p.r.toNat:=by omega
   have hBt:j=p.b.toNat:=by omega
   have h30:rl3 p 0=rl2 i j:=by unfold rl3;rw[hRt,hBt];simp
   refine wa ?_
   refine AC.loop (X:=Nat×Nat) (fun x=>⟨[(1,.p 1 0),(2,.d .n),(3,.d (.v (.func (.func 151) #[] #[]))),(4,.r 22 x.2),(58,.d (.l (p.a.map enA))),(59,.d (.v (.int .i64 (p.a.length:Int)))),(60,.d (.v (.int .i64 (x.1:Int))))],[(1,.box 29 ((enSP p).map .d)),(22,.row x.2 98 3 ((rl3 p x.1).map enX))]⟩) (fun x=>x.1≤p.a.length) (fun x=>p.a.length-x.1) (0,m) (Nat.zero_le _) ⟨rfl,rfl,rfl,rfl,rfl,rfl,rfl,trivial⟩ ⟨rfl,by dsimp only;rw[h30];rfl,trivial⟩ ?_
   intro ⟨k,g⟩ hk
   dsimp only at hk ⊢
   by_cases h3:k<p.a.length
   ·have hx:=List.getElem?_eq_getElem h3
    have hm:=List.getElem_mem h3
    have hs:(rl3 p (k+1)).map enX=(rl3 p k).map enX++[enX (atmT k p.a[k])]:=by
     rw[rl3_succ p h3,List.map_append]
     rfl
    have hle:((rl3 p k).map enX).length≤2000:=by
     unfold rl3 rl2 rl1 rl0
     simp
     omega
    have hok:=hOk _ hm
    obtain⟨ho,hin⟩:=hIn _ hm
    generalize p.a[k]=x at hx hm hs hok ho hin
    generalize (rl3 p k).map enX=G at hs hle ⊢
    have hsg:=smtSign x.op ho
    have hsd:=smtSide (Kw:=Kw) (k:=6682) x.e (by omega) (fun t ht=>⟨(hin t ht).1,by have:=(hin t ht).2;omega,hok.sm.t t ht⟩) (by have:=hok.sm.n;omega)
    have hng:=ratNeg x.e.c
    have hnu:=smtNumber (-x.e.c) hok.sm.c.neg (by omega)
    have hnm:=smtName (Kw:=Kw) 97 (k:Int) (by omega) (by omega)
    have hat:enX (atmT k x)=[.v (.bool false),.v (.string (tx [])),.l ([wdA defW,nmA 97 k,lstT [],wdA boolW,bodT x].map enX)]:=by unfold atmT;rw[enX_lst]
    have hbo:bodT x=lstT [wdA (sgnT x.op),sidT x.e.t,numT (-x.e.c)]:=rfl
    have hr3:=hrow3 (wdA (sgnT x.op)) (sidT x.e.t) (numT (-x.e.c))
    have hr5:=hrow5 (wdA defW) (nmA 97 k) (lstT []) (wdA boolW) (lstT [wdA (sgnT x.op),sidT x.e.t,numT (-x.e.c)])
    rw[hat,hbo]at hs
    clear hat hbo
    generalize-x.e.c=nc at hng hnu hs hr3 hr5
    generalize numT nc=nq at hnu hs hr3 hr5
    generalize sidT x.e.t=sd at hsd hs hr3 hr5
    generalize sgnT x.op=sg at hsg hs hr3 hr5
    clear hlit hOk hIn hrow1 hrow2 hrow3 hrow5
    refine wn ?_
    refine c1 hsg ?_
    refine wn ?_
    ((try (first | intro K ms hms hK | intro K hK));(first | apply Chain.go | apply Chain.goD);exact rfl;exact rfl;refine Loc.callVG (hword sg) rfl rfl ?_;(repeat (first | exact trivial | refine⟨.inl rfl,?_⟩ | refine⟨.inr rfl,?_⟩)))
    refine wn ?_
    refine c1 hsd ?_
    refine wn ?_
    refine c1 hng ?_
    refine wn ?_
    refine c1 hnu ?_
    refine wn ?_
    ((try (first | intro K ms hms hK | intro K hK));(first | apply Chain.go | apply Chain.goD);exact rfl;exact rfl;exact Loc.litP rfl rfl rfl rfl rfl rfl rfl)
    refine c1 hr3 ?_
    refine wn ?_
    ((try (first | intro K ms hms hK | intro K hK));(first | apply Chain.go | apply Chain.goD);exact rfl;exact rfl;refine Loc.callVG (hword defW) rfl rfl ?_;(repeat (first | exact trivial | refine⟨.inl rfl,?_⟩ | refine⟨.inr rfl,?_⟩)))
    refine wn ?_
    refine c1 hnm ?_
    refine wn ?_
    refine c1 hrow0 ?_
    refine wn ?_
    ((try (first | intro K ms hms hK | intro K hK));(first | apply Chain.go | apply Chain.goD);exact rfl;exact rfl;refine Loc.callVG (hword boolW) rfl rfl ?_;(repeat (first | exact trivial | refine⟨.inl rfl,?_⟩ | refine⟨.inr rfl,?_⟩)))
    refine wn ?_
    ((try (first | intro K ms hms hK | intro K hK));(first | apply Chain.go | apply Chain.goD);exact rfl;exact rfl;exact Loc.litP rfl rfl rfl rfl rfl rfl rfl)
    refine c1 hr5 ?_
    clear hr3 hr5 hnm hng hnu hsd hsg hrow0
    refine wa ?_
    exact⟨(k+1,g+1),h3,by dsimp only;omega,⟨rfl,rfl,rfl,rfl,rfl,rfl,rfl,trivial⟩,⟨rfl,by dsimp only;rw[hs];rfl,trivial⟩⟩
   ·rw[show k=p.a.length by omega]
    have h40:rl4 p 0=rl3 p p.a.length:=by unfold rl4;simp
    clear hrow0 hrow3 hrow5 hOk hIn
    refine wa ?_
    refine AC.loop (X:=Nat×Nat) (fun x=>⟨[(1,.p 1 0),(2,.d .n),(3,.d (.v (.func (.func 151) #[] #[]))),(4,.r 22 x.2),(95,.d (.l (p.c.map enCl))),(96,.d (.v (.int .i64 (p.c.length:Int)))),(97,.d (.v (.int .i64 (x.1:Int))))],[(1,.box 29 ((enSP p).map .d)),(22,.row x.2 98 3 ((rl4 p x.1).map enX))]⟩) (fun x=>x.1≤p.c.length) (fun x=>p.c.length-x.1) (0,g) (Nat.zero_le _) ⟨rfl,rfl,rfl,rfl,rfl,rfl,rfl,trivial⟩ ⟨rfl,by dsimp only;rw[h40];rfl,trivial⟩ ?_
    intro ⟨u,f⟩ hu
    dsimp only at hu ⊢
    by_cases h4:u<p.c.length
    ·have hx:=List.getElem?_eq_getElem h4
     have hm:=List.getElem_mem h4
     have hs:(rl4 p (u+1)).map enX=(rl4 p u).map enX++[enX (assT p.b p.c[u])]:=by
      rw[rl4_succ p h4,List.map_append]
      rfl
     have hle:((rl4 p u).map enX).length≤2000:=by
      unfold rl4 rl3 rl2 rl1 rl0
      simp
      omega
     have hln:=(hcl _ hm).1
     have hko:=hlc _ hm
     generalize p.c[u]=x at hx hm hs hln hko
     generalize (rl4 p u).map enX=G at hs hle ⊢
     have hlx:(x.map zI).length=x.length:=List.length_map ..
     have hat:enX (assT p.b x)=[.v (.bool false),.v (.string (tx [])),.l ([wdA asW,clT p.b x].map enX)]:=by unfold assT;rw[enX_lst]
     rw[hat]at hs
     have hr2:=hrow2 (wdA asW) (clT p.b x)
     clear hlc hcl hrow1 hrow2
     by_cases k0:x.length=0
     ·obtain rfl:=List.length_eq_zero_iff.1 k0
      have e:clT p.b []=wdA faW:=rfl
      rw[e]at hs hr2
      clear hlit
      refine wa ?_
      ((try (first | intro K ms hms hK | intro K hK));(first | apply Chain.go | apply Chain.goD);exact rfl;exact rfl;refine Loc.callVG (hword faW) rfl rfl ?_;(repeat (first | exact trivial | refine⟨.inl rfl,?_⟩ | refine⟨.inr rfl,?_⟩)))
      refine wa ?_
      ((try (first | intro K ms hms hK | intro K hK));(first | apply Chain.go | apply Chain.goD);exact rfl;exact rfl;refine Loc.callVG (hword asW) rfl rfl ?_;(repeat (first | exact trivial | refine⟨.inl rfl,?_⟩ | refine⟨.inr rfl,?_⟩)))
      refine wa ?_
      exact⟨(u+1,f+1),h4,by dsimp only;omega,⟨rfl,rfl,rfl,rfl,rfl,rfl,rfl,trivial⟩,⟨rfl,by dsimp only;rw[hs];rfl,trivial⟩⟩
     by_cases k1:x.length=1
     ·obtain⟨l,rfl⟩:=List.length_eq_one_iff.1 k1
      have e:clT p.b [l]=litT p.b l:=rfl
      have hli:=hlit l (hko l (by simp)).1
      have hgl:[l][0]?=some l:=rfl
      rw[e]at hs hr2
      generalize litT p.b l=y at hs hr2 hli
      clear hlit
      refine wa ?_
      ((try (first | intro K ms hms hK | intro K hK));(first | apply Chain.go | apply Chain.goD);exact rfl;exact rfl;refine Loc.callVG (hword faW) rfl rfl ?_;(repeat (first | exact trivial | refine⟨.inl rfl,?_⟩ | refine⟨.inr rfl,?_⟩)))
      refine wa ?_
      ((try (first | intro K ms hms hK | intro K hK));(first | apply Chain.go | apply Chain.goD);exact rfl;exact rfl;refine Loc.callVG (hword asW) rfl rfl ?_;(repeat (first | exact trivial | refine⟨.inl rfl,?_⟩ | refine⟨.inr rfl,?_⟩)))
      refine wa ?_
      exact⟨(u+1,f+1),h4,by dsimp only;omega,⟨rfl,rfl,rfl,rfl,rfl,rfl,rfl,trivial⟩,⟨rfl,by dsimp only;rw[hs];rfl,trivial⟩⟩
     ·have e:clT p.b x=lstT (wdA orW::x.map (litT p.b)):=by
       unfold clT
       split
       ·exact absurd rfl k0
       ·exact absurd rfl k1
       ·rfl
      rw[e]at hs hr2
      clear e
      refine wa ?_
      ((try (first | intro K ms hms hK | intro K hK));(first | apply Chain.go | apply Chain.goD);exact rfl;exact rfl;refine Loc.callVG (hword faW) rfl rfl ?_;(repeat (first | exact trivial | refine⟨.inl rfl,?_⟩ | refine⟨.inr rfl,?_⟩)))
      refine wn ?_
      ((try (first | intro K ms hms hK | intro K hK));(first | apply Chain.go | apply Chain.goD);exact rfl;exact rfl;refine Loc.callVG (hword orW) rfl rfl ?_;(repeat (first | exact trivial | refine⟨.inl rfl,?_⟩ | refine⟨.inr rfl,?_⟩)))
      refine wn ?_
      ((try (first | intro K ms hms hK | intro K hK));(first | apply Chain.ef | apply Chain.efD);exact rfl;exact rfl;exact Do.litR rfl rfl rfl rfl rfl rfl rfl rfl;exact rfl;exact rfl)
      refine wa ?_
      refine AC.loop (X:=Nat×Nat) (fun y=>⟨[(1,.p 1 0),(2,.d .n),(3,.d (.v (.func (.func 151) #[] #[]))),(4,.r 22 f),(12,.p 12 0),(13,.r 116 y.2),(95,.d (.l (p.c.map enCl))),(96,.d (.v (.int .i64 (p.c.length:Int)))),(97,.d (.v (.int .i64 (u:Int)))),(117,.d (enZ x)),(118,.d (.v (.int .i64 (x.length:Int)))),(119,.d (.v (.int .i64 (y.1:Int))))],[(1,.box 29 ((enSP p).map .d)),(22,.row f 98 3 G),(12,.box 98 [.d (.v (.bool true)),.d (.v (.string (tx faW))),.d (.l [])]),(116,.row y.2 98 3 ((wdA orW::(x.take y.1).map (litT p.b)).map enX))]⟩) (fun y=>y.1≤x.length) (fun y=>x.length-y.1) (0,0) (Nat.zero_le _) ⟨rfl,rfl,rfl,rfl,rfl,rfl,rfl,rfl,rfl,rfl,rfl,rfl,trivial⟩ ⟨rfl,rfl,rfl,rfl,trivial⟩ ?_
      intro ⟨v,z⟩ hv
      dsimp only at hv ⊢
      by_cases h6:v<x.length
      ·have gx:=List.getElem?_eq_getElem h6
       have gl:=hlit _ (hko _ (List.getElem_mem h6)).1
       have gs:(wdA orW::(x.take (v+1)).map (litT p.b)).map enX=(wdA orW::(x.take v).map (litT p.b)).map enX++[enX (litT p.b x[v])]:=by
        rw[List.take_succ_eq_append_getElem h6,List.map_append,←List.cons_append,List.map_append];rfl
       have gm:((wdA orW::(x.take v).map (litT p.b)).map enX).length=v+1:=by simp;omega
       generalize (wdA orW::(x.take v).map (litT p.b)).map enX=H at gs gm ⊢
       generalize x[v]=l at gx gl gs
       generalize litT p.b l=y at gl gs
       clear hlit hr2
       refine wa ?_
       exact⟨(v+1,z+1),h6,by dsimp only;omega,⟨rfl,rfl,rfl,rfl,rfl,rfl,rfl,rfl,rfl,rfl,rfl,rfl,trivial⟩,⟨rfl,rfl,rfl,by dsimp only;rw[gs];rfl,trivial⟩⟩
      ·rw[List.take_of_length_le (by omega)]
       clear hlit
       refine AC.frzVar 13 rfl rfl ?_
       rw[List.map_cons,List.map_cons,List.map_nil,enX_lst]at hs
       rw[enX_mk,List.map_cons,List.map_cons,List.map_nil,enX_lst]at hr2
       generalize (wdA orW::x.map (litT p.b)).map enX=H at hs hr2 ⊢
       refine wa ?_
       ((try (first | intro K ms hms hK | intro K hK));(first | apply Chain.go | apply Chain.goD);exact rfl;exact rfl;refine Loc.callVG (hword asW) rfl rfl ?_;(repeat (first | exact trivial | refine⟨.inl rfl,?_⟩ | refine⟨.inr rfl,?_⟩)))
       refine wa ?_
       exact⟨(u+1,f+1),h4,by dsimp only;omega,⟨rfl,rfl,rfl,rfl,rfl,rfl,rfl,trivial⟩,⟨rfl,by dsimp only;rw[hs];rfl,trivial⟩⟩
    ·rw[show u=p.c.length by omega]
     have hfin:(rowT p).map enX=(rl4 p p.c.length).map enX++[[.v (.bool false),.v (.string (tx [])),.l ([wdA csW].map enX)]]:=by
      unfold rowT
      rw[List.map_append,List.map_cons,List.map_nil,enX_lst]
     have hle:((rl4 p p.c.length).map enX).length≤2000:=by
      unfold rl4 rl3 rl2 rl1 rl0
      simp
      omega
     rw[hfin]
     generalize (rl4 p p.c.length).map enX=G at hle ⊢
     have hr1:=hrow1 (wdA csW)
     clear hlit hrow1 hrow2
     refine wa ?_
     ((try (first | intro K ms hms hK | intro K hK));(first | apply Chain.go | apply Chain.goD);exact rfl;exact rfl;refine Loc.callVG (hword csW) rfl rfl ?_;(repeat (first | exact trivial | refine⟨.inl rfl,?_⟩ | refine⟨.inr rfl,?_⟩)))
     refine wa ?_
     exact⟨.d rfl ⟨_,_,rfl⟩,trivial⟩
end
end Go.Proofs.YtbbpecfapohlaaaGreatDoor
