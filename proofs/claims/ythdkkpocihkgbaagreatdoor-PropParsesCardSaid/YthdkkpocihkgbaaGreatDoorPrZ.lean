import Derived.Test.YthdkkpocihkgbaaGreatDoorPrF
set_option maxRecDepth 100000
set_option maxHeartbeats 8000000
namespace Go.Proofs.YthdkkpocihkgbaaGreatDoor
open Go.RowKit
attribute [local irreducible] AC Do St
theorem CK(a:At)(p:List Rat)(k:Nat)(ho:je a.op)(hc:Bd k a.e.c)(ht:∀ t∈a.e.t,Bd k t.2)(hp:∀ q∈p,Bd k q)(hk0:0<k)(hk:(a.e.t.length+2)*(2*k+1)≤50000000):Fn Tryz.prog 80 [.g (fG a),.d (.l (p.map aN))] [.d (.v (.bool (k7 a.op (a.e.c+cp p a.e.t)))),.d (.v (.int .i64 0))]:=by
 refine Fn.of Tryz.func80 rfl (by kernel_rfl) Tryz.ntmps80 Tryz.results80 rfl fun w0 S0=>?_;refine wk ?_;refine c1 (xx a ho) ?_;refine wk ?_;refine c1 (DP a.e p k hc ht hp hk0 hk) ?_;refine c1 (DW a.op (a.e.c+cp p a.e.t) ho) ?_;refine wk ?_;exact⟨.d rfl (.inl rfl),.d rfl (.inl rfl),trivial⟩
end Go.Proofs.YthdkkpocihkgbaaGreatDoor
namespace Go.Proofs.YthdkkpocihkgbaaGreatDoor
open Go.RowKit
attribute [local irreducible] AC Do St
end Go.Proofs.YthdkkpocihkgbaaGreatDoor
namespace Go.Proofs.YthdkkpocihkgbaaGreatDoor
open Go.RowKit
attribute [local irreducible] AC Do St
theorem lv{l:List Tm}(h:Form l):dU l=l:=ku h fun _=>rfl
theorem sub_self(e:Ex):(cH e e).t.length=0∧(cH e e).c=0:=by
 unfold cH eK cy;constructor
 ·have:dU (e.t++dU (e.t.map (fE (-1))))=[]:=ku ⟨.nil,by simp⟩ fun v=>by
   rw[gy,(eg _).2.1];have:=uO e.t (-1) v;have h2:ar (e.t.map (fE (-1))) v= -1*ar e.t v:=this;rw[h2];simp only[ar];grind
  simp only;rw[this];rfl
 ·simp only;grind
end Go.Proofs.YthdkkpocihkgbaaGreatDoor
namespace Go.Proofs.YthdkkpocihkgbaaGreatDoor
open Go.RowKit
attribute [local irreducible] AC Do St
theorem EE(a:At)(k:Nat)(hk:k≤10000000)(hc:Bd k a.e.c)(ht:∀ t∈a.e.t,Bd k t.2)(hlen:a.e.t.length≤1000000):Fn Tryz.prog 138 [.g (fG a)] [.g (iK a)]:=by
 refine Fn.of Tryz.func138 rfl (by kernel_rfl) Tryz.ntmps138 Tryz.results138 rfl fun w0 S0=>?_;refine wk ?_;refine c1 (DA a.e k hk hc ht hlen) ?_;refine wk ?_;exact⟨.cn rfl rfl inferInstance rfl ⟨.inl rfl,.inl rfl,.inl rfl,.inl rfl,.inl rfl,trivial⟩,trivial⟩
end Go.Proofs.YthdkkpocihkgbaaGreatDoor
namespace Go.Proofs.YthdkkpocihkgbaaGreatDoor
open Go.RowKit
attribute [local irreducible] AC Do St
theorem Sm.mono{N k N' k':Nat}{e:Ex}(h:Sm N k e)(hN:N≤N')(hk:k≤k'):Sm N' k' e:=⟨h.c.mono hk,fun t ht=>(h.t t ht).mono hk,Nat.le_trans h.n hN⟩
end Go.Proofs.YthdkkpocihkgbaaGreatDoor
namespace Go.Proofs.YthdkkpocihkgbaaGreatDoor
open Go.RowKit
attribute [local irreducible] AC Do St
theorem y8{xs:List (List D)}(hk:∀ c∈xs,c.length=3)(hlen:xs.length≤1000000000):FnRow Tryz.prog 56 [.d (.l xs)] 119 3 xs:=by
 refine FnRow.of Tryz.func56 rfl (by kernel_rfl) Tryz.ntmps56 Tryz.results56 rfl fun w0 S0=>?_;refine wk ?_;(first | intro K ms hms hK | intro K hK);refine Ch.EY rfl rfl rfl rfl (fun h u=>?_) (fun u=>?_)
 ·subst h
  (repeat (first
    | refine Ch.no rfl rfl ?_
    | refine Ch.iX rfl rfl ?_
    | ((first | apply Ch.go | apply Ch.ah);exact rfl;exact rfl;first
      | exact Loc.move (v:= .d _) rfl rfl
      | exact Loc.assign (v:= .d _) rfl rfl
      | exact Loc.c7 rfl rfl rfl rfl
      | exact Loc.cU rfl rfl rfl
      | exact Loc.cY rfl rfl rfl
      | exact Loc.cV rfl rfl
      | exact Loc.bh (v:= .d _) rfl rfl rfl
      | exact Loc.bk (v:= .d _) rfl rfl rfl
      | exact Loc.cz rfl rfl rfl rfl (by kernel_rfl)
      | exact Loc.cZ rfl rfl rfl
      | exact Loc.cQ rfl rfl rfl rfl
      | exact Loc.ea rfl rfl rfl rfl (by assumption) rfl
      | exact Loc.fN rfl rfl
      | exact Loc.fP rfl rfl
      | exact Loc.fM rfl rfl rfl
      | exact Loc.len rfl rfl
      | exact Loc.eb rfl rfl rfl (by omega)
      | exact Loc.eG rfl rfl rfl (by omega)
      | exact Loc.ec rfl rfl rfl (by omega)
      | exact Loc.eE rfl rfl rfl (by omega)
      | exact Loc.eP rfl rfl rfl (by omega)
      | exact Loc.eM rfl rfl rfl (by omega)
      | exact Loc.eD rfl rfl rfl (by omega)
      | exact Loc.eF rfl rfl rfl (by omega)
      | exact Loc.gn rfl rfl rfl (by omega)
      | exact Loc.gp rfl rfl rfl (by omega)
      | exact Loc.gG rfl rfl rfl (by omega)
      | exact Loc.gH rfl rfl rfl (by omega)
      | exact Loc.add rfl rfl rfl (IntWalk.i64_in _ (by omega))
      | exact Loc.sub rfl rfl rfl (IntWalk.i64_in _ (by omega))
      | exact Loc.fL rfl rfl
      | exact Loc.fJ rfl rfl
      | exact Loc.cW rfl rfl rfl
      | exact Loc.c8 rfl rfl rfl (by assumption) rfl
      | exact Loc.cB rfl rfl rfl rfl rfl (by omega) rfl
      | exact Loc.move (v:= .g _) rfl rfl
      | exact Loc.move (v:= .p _ _) rfl rfl
      | exact Loc.move (v:= .r _ _) rfl rfl
      | exact Loc.move (v:= .t _) rfl rfl
      | exact Loc.assign (v:= .g _) rfl rfl
      | exact Loc.assign (v:= .r _ _) rfl rfl
      | exact Loc.assign (v:= .p _ _) rfl rfl
      | exact Loc.extract (v:= .d _) rfl rfl rfl rfl
      | exact Loc.extract (v:= .g _) rfl rfl rfl rfl
      | exact Loc.bh (v:= .g _) rfl rfl rfl
      | exact Loc.bk (v:= .g _) rfl rfl rfl
      | exact Loc.move (v:= .un) rfl rfl
      | exact Loc.build rfl rfl rfl rfl
      | exact Loc.df rfl rfl rfl rfl rfl rfl rfl)
    | refine Ch.eO (hK _ ?_)
    | ((first | apply Ch.st | apply Ch.aU);exact rfl;exact rfl;(first
      | exact Do.aC rfl rfl rfl rfl .g rfl rfl rfl
      | exact Do.aC rfl rfl rfl rfl .d rfl rfl rfl
      | exact Do.aC rfl rfl rfl rfl (.r rfl) rfl rfl rfl);exact rfl;exact rfl)
    | ((first | apply Ch.ef | apply Ch.bU);exact rfl;exact rfl;(first
      | exact Do.alloc rfl rfl rfl
      | exact Do.box rfl rfl rfl .g rfl
      | exact Do.box rfl rfl rfl .d rfl
      | exact Do.fI rfl rfl
      | exact Do.ck rfl rfl rfl rfl rfl rfl (by first | omega | (simp;omega))
      | exact Do.bS rfl rfl rfl rfl rfl rfl);exact rfl;exact rfl)
    | refine Ch.fK (by rw[hms];kernel_rfl) (hK _ ?_)
    | refine Ch.iY rfl rfl ?_))
  refine AC.jg rfl ?_;refine AC.seq ?_;refine AC.mm (by decide+kernel) ?_;(first | intro K ms hms hK | intro K hK)
  (repeat (first
    | refine Ch.no rfl rfl ?_
    | refine Ch.iX rfl rfl ?_
    | ((first | apply Ch.go | apply Ch.ah);exact rfl;exact rfl;first
      | exact Loc.move (v:= .d _) rfl rfl
      | exact Loc.assign (v:= .d _) rfl rfl
      | exact Loc.c7 rfl rfl rfl rfl
      | exact Loc.cU rfl rfl rfl
      | exact Loc.cY rfl rfl rfl
      | exact Loc.cV rfl rfl
      | exact Loc.bh (v:= .d _) rfl rfl rfl
      | exact Loc.bk (v:= .d _) rfl rfl rfl
      | exact Loc.cz rfl rfl rfl rfl (by kernel_rfl)
      | exact Loc.cZ rfl rfl rfl
      | exact Loc.cQ rfl rfl rfl rfl
      | exact Loc.ea rfl rfl rfl rfl (by assumption) rfl
      | exact Loc.fN rfl rfl
      | exact Loc.fP rfl rfl
      | exact Loc.fM rfl rfl rfl
      | exact Loc.len rfl rfl
      | exact Loc.eb rfl rfl rfl (by omega)
      | exact Loc.eG rfl rfl rfl (by omega)
      | exact Loc.ec rfl rfl rfl (by omega)
      | exact Loc.eE rfl rfl rfl (by omega)
      | exact Loc.eP rfl rfl rfl (by omega)
      | exact Loc.eM rfl rfl rfl (by omega)
      | exact Loc.eD rfl rfl rfl (by omega)
      | exact Loc.eF rfl rfl rfl (by omega)
      | exact Loc.gn rfl rfl rfl (by omega)
      | exact Loc.gp rfl rfl rfl (by omega)
      | exact Loc.gG rfl rfl rfl (by omega)
      | exact Loc.gH rfl rfl rfl (by omega)
      | exact Loc.add rfl rfl rfl (IntWalk.i64_in _ (by omega))
      | exact Loc.sub rfl rfl rfl (IntWalk.i64_in _ (by omega))
      | exact Loc.fL rfl rfl
      | exact Loc.fJ rfl rfl
      | exact Loc.cW rfl rfl rfl
      | exact Loc.c8 rfl rfl rfl (by assumption) rfl
      | exact Loc.cB rfl rfl rfl rfl rfl (by omega) rfl
      | exact Loc.move (v:= .g _) rfl rfl
      | exact Loc.move (v:= .p _ _) rfl rfl
      | exact Loc.move (v:= .r _ _) rfl rfl
      | exact Loc.move (v:= .t _) rfl rfl
      | exact Loc.assign (v:= .g _) rfl rfl
      | exact Loc.assign (v:= .r _ _) rfl rfl
      | exact Loc.assign (v:= .p _ _) rfl rfl
      | exact Loc.extract (v:= .d _) rfl rfl rfl rfl
      | exact Loc.extract (v:= .g _) rfl rfl rfl rfl
      | exact Loc.bh (v:= .g _) rfl rfl rfl
      | exact Loc.bk (v:= .g _) rfl rfl rfl
      | exact Loc.move (v:= .un) rfl rfl
      | exact Loc.build rfl rfl rfl rfl
      | exact Loc.df rfl rfl rfl rfl rfl rfl rfl)
    | refine Ch.eO (hK _ ?_)
    | ((first | apply Ch.st | apply Ch.aU);exact rfl;exact rfl;(first
      | exact Do.aC rfl rfl rfl rfl .g rfl rfl rfl
      | exact Do.aC rfl rfl rfl rfl .d rfl rfl rfl
      | exact Do.aC rfl rfl rfl rfl (.r rfl) rfl rfl rfl);exact rfl;exact rfl)
    | ((first | apply Ch.ef | apply Ch.bU);exact rfl;exact rfl;(first
      | exact Do.alloc rfl rfl rfl
      | exact Do.box rfl rfl rfl .g rfl
      | exact Do.box rfl rfl rfl .d rfl
      | exact Do.fI rfl rfl
      | exact Do.ck rfl rfl rfl rfl rfl rfl (by first | omega | (simp;omega))
      | exact Do.bS rfl rfl rfl rfl rfl rfl);exact rfl;exact rfl)
    | refine Ch.fK (by rw[hms];kernel_rfl) (hK _ ?_)
    | refine Ch.iY rfl rfl ?_))
  refine AC.j7 2 7 119 3 rfl rfl ?_;refine wk ?_;exact⟨2,7,0,rfl,rfl,rfl⟩
 ·refine wk ?_;((try (first | intro K ms hms hK | intro K hK));(first | apply Ch.ef | apply Ch.bU);exact rfl;exact rfl;exact Do.append rfl rfl rfl rfl rfl hk (by simp;omega);exact rfl;exact rfl);refine wk ?_;exact⟨2,5,1,rfl,rfl,rfl⟩
def fX(ats:List At)(p:List Rat):List Bool:=ats.map fun a=>k7 a.op (a.e.c+cp p a.e.t)
def D2(k n:Nat)(a:At):Prop:=Bd k a.e.c∧(∀t∈a.e.t,Bd k t.2)∧a.e.t.length≤n
theorem CX{e i o:Int}{box:List (Rat×Rat)}{ats:List At}(h:dJ e box ats i o=0):e=0∧ats.length≤200∧∀ a∈ats,je a.op:=by
 unfold dJ at h;split at h
 ·omega
 ·rename_i h1;split at h
  ·omega
  ·rename_i h2;split at h
   ·split at h
    ·rename_i h3;refine⟨?_,?_,fun a ha=>?_⟩
     ·rcases Decidable.em (e=0)with g | g
      ·exact g
      ·exact absurd (.inl g) h2
     ·rcases Nat.lt_or_ge 200 ats.length with g | g
      ·exact absurd (.inl g) h1
      ·exact g
     ·have:=List.all_eq_true.1 h3 a ha;unfold kh at this;rw[Bool.and_eq_true]at this;have h4:=this.1;unfold je;simp at h4;omega
    ·omega
   ·omega
theorem vt:∀ (vs:List Bool) (m:Nat) (b:Bool),(vs++List.replicate (m+1) false).set vs.length b=vs++[b]++List.replicate m false
 | [],_,_=>rfl
 | v::vs,m,b=>congrArg (v:: ·) (vt vs m b)
theorem Ey{k n:Nat}(p:PP)(x y:List Rat)(hp:lJ k p)(hk0:0<k)(hk:k≤25000000)(hlp:ss p)(hok:dG p.bad)(hx:∀ q∈x,Bd k q)(hy:∀ q∈y,Bd k q)(hl:x.length+y.length≤1000)(ha:∀ a∈p.ats,D2 k n a)(hkn:(n+2)*(2*k+1)≤50000000)(h0:dJ (dD p.bad p.ats.length) p.box p.ats x.length y.length=0):Fn Tryz.prog 35 [.g (fi p),.d (.l (x.map aN)),.d (.l (y.map aN))] [.d (.v (.bool (iy p.bad (fX p.ats (x++y))&&kb p.box x))),.d (.v (.int .i64 0))]:=by
 have hc:=nI p x.length y.length hp hk hlp hok;obtain⟨e0,hal,hop⟩:=CX h0;rw[h0]at hc;have hin:=AX p x hp hx (by omega);have hev:=Bk p.bad (fX p.ats (x++y)) hok;unfold Ci at hev;rw[show (fX p.ats (x++y)).length=p.ats.length from List.length_map ..,if_pos e0]at hev;have hat:∀ q∈x++y,Bd k q:=fun q hq=>(List.mem_append.1 hq).elim (hx q) (hy q);obtain⟨bx,ats,bad⟩:=p;dsimp only at hin hev ha hal hop;rw[show fi ⟨bx,ats,bad⟩=[.l (bx.map fe),.l (ats.map fG)]++aM bad from rfl]at hc hin ⊢;show Fn _ _ _ [.d (.v (.bool (iy bad (fX ats (x++y))&&kb bx x))),.d (.v (.int .i64 0))];have hmx:(x.map aN).length=x.length:=List.length_map ..;have hmy:(y.map aN).length=y.length:=List.length_map ..;refine Fn.of Tryz.func35 rfl (by kernel_rfl) Tryz.ntmps35 Tryz.results35 rfl fun w0 S0=>?_;refine wk ?_;refine c1 hc ?_;refine wk ?_;((try (first | intro K ms hms hK | intro K hK));(first | apply Ch.ef | apply Ch.bU);exact rfl;exact rfl;exact Do.xq (f:=fun b=>[D.v (.bool b)]) false ats.length ats.length rfl rfl rfl rfl rfl rfl (Nat.le_refl _) (by omega);exact rfl;exact rfl);refine wk ?_;((try (first | intro K ms hms hK | intro K hK));(first | apply Ch.ef | apply Ch.bU);exact rfl;exact rfl;exact Do.ry (y8 (xs:=x.map aN) (fun c hc=>by obtain⟨t,_,rfl⟩:=List.mem_map.1 hc;rfl) (by simp;omega)) rfl ⟨.inl rfl,trivial⟩ rfl;exact rfl;exact rfl);refine wk ?_
 ((try (first | intro K ms hms hK | intro K hK));(first | apply Ch.ef | apply Ch.bU);exact rfl;exact rfl;exact Do.append rfl rfl rfl rfl rfl (by intro z hz;obtain⟨q,_,rfl⟩:=List.mem_map.1 hz;rfl) (by simp;omega);exact rfl;exact rfl);refine wk ?_;refine AC.br 10 rfl rfl ?_;rw[show (x.map aN++y.map aN)=(x++y).map aN from by simp];generalize x++y=pt at hat hev ⊢;have hvl:∀ i,(fX (ats.take i) pt).length=(ats.take i).length:=fun i=>List.length_map ..;refine AC.loop (X:=Nat) (fun i=>⟨[(1,.d (.l (x.map aN))),(3,.p 3 0),(9,.r 27 0),(10,.d (.l (pt.map aN))),(33,.d (.l (ats.map fG))),(34,.d (.v (.int .i64 (ats.length:Int)))),(35,.d (.v (.int .i64 (i:Int))))],[(3,.box 83 (([D.l (bx.map fe),D.l (ats.map fG)]++aM bad).map .d)),(27,.row 0 4 1 ((fX (ats.take i) pt++List.replicate (ats.length-i) false).map fun b=>[.v (.bool b)]))]⟩) (fun i=>i≤ats.length) (fun i=>ats.length-i) 0 (Nat.zero_le _) ⟨rfl,rfl,rfl,rfl,rfl,rfl,rfl,trivial⟩ ⟨rfl,rfl,trivial⟩ ?_;intro i hi;dsimp only at hi ⊢;have hvi:=hvl i;rw[List.length_take]at hvi;have hrl:((fX (ats.take i) pt++List.replicate (ats.length-i) false).map fun b=>[D.v (.bool b)]).length=ats.length:=by simp;omega
 refine wk ?_;refine s1 (fun g1=>?_) (fun g1=>?_)
 ·have hi1:i<ats.length:=by omega
  have hs:ats[i]?=some ats[i]:=List.getElem?_eq_getElem hi1;have hts:fX (ats.take (i+1)) pt=fX (ats.take i) pt++[k7 ats[i].op (ats[i].e.c+cp pt ats[i].e.t)]:=by
   unfold fX;rw[List.take_succ_eq_append_getElem hi1,List.map_append];rfl
  obtain⟨a1,a2,a3⟩:=ha _ (List.getElem_mem hi1);have ho:=hop _ (List.getElem_mem hi1);generalize ats[i]=a at hs hts a1 a2 a3 ho;have hh:=CK a pt k ho a1 a2 hat hk0 (Nat.le_trans (Nat.mul_le_mul_right _ (Nat.add_le_add_right a3 2)) hkn);generalize k7 a.op (a.e.c+cp pt a.e.t)=v at hh hts;have hset:=vt (fX (ats.take i) pt) (ats.length-(i+1)) v;rw[show ats.length-(i+1)+1=ats.length-i from by omega,show (fX (ats.take i) pt).length=i from by omega,←hts]at hset;have hget:(fX (ats.take i) pt++List.replicate (ats.length-i) false)[i]?=some false:=by
   rw[List.getElem?_append_right (by omega),List.getElem?_replicate,if_pos (by omega)]
  refine wk ?_;refine c1 hh ?_;refine wk ?_;((try (first | intro K ms hms hK | intro K hK));(first | apply Ch.st | apply Ch.aU);exact rfl;exact rfl;exact Do.Ai v rfl rfl rfl hget rfl rfl rfl rfl rfl rfl;exact rfl;exact rfl);rw[hset];refine wk ?_;exact⟨i+1,hi1,by omega,⟨rfl,rfl,rfl,rfl,rfl,rfl,rfl,trivial⟩,⟨rfl,rfl,trivial⟩⟩
 ·obtain rfl:i=ats.length:=by omega
  rw[List.take_length,Nat.sub_self,List.replicate_zero,List.append_nil];(first | intro K ms hms hK | intro K hK | skip);refine Ch.br 9 rfl rfl ?_;unfold kF at hev;cases hw:iy bad (fX ats pt)with
  | false=>
    rw[hw]at hev;refine wk ?_;refine c1 hev ?_;refine wk ?_;rw[hw];exact⟨.d rfl (.inl rfl),.d rfl (.inl rfl),trivial⟩
  | true=>
    rw[hw]at hev;refine wk ?_;refine c1 hev ?_;refine wk ?_;refine c1 hin ?_;refine wk ?_;rw[hw];exact⟨.d rfl (.inl rfl),.d rfl (.inl rfl),trivial⟩
end Go.Proofs.YthdkkpocihkgbaaGreatDoor
namespace Go.Proofs.YthdkkpocihkgbaaGreatDoor
open Go.RowKit
attribute [local irreducible] AC Do St
theorem FnK.to{P:Program}{f:FuncId}{K K':World→Prop}{args res:List DV}(h:FnK P f K args res)(hk:∀ w,K' w→K w):FnK P f K' args res:=⟨h.body,fun S w vs h'=>h.run S w vs (hk w h')⟩
def vM(op:Int):List UInt8:=if op=1 then [60,61]else if op=2 then [60]else [61]
def aH(w:List UInt8):ST:= .mk true w []
def uG(i:Int)(t:Tm):ST:= .mk false [] [aH [42],aH (cr t.2),aH (lE t.1 i)]
noncomputable def qZ (i:Int)(a:At):ST:= .mk false [] [aH (vM a.op),.mk false [] (aH [43]::(dU a.e.t).map (uG i)),aH (cr (-a.e.c))]
theorem nK:∀ {o:List Tm} {t:Tm},Form o→t∈o→ar o t.1=t.2
 | [],t,_,h=>nomatch h
 | u::o,t,h1,ht=>by
   rcases List.mem_cons.1 ht with h3 | h3
   ·rw[h3];exact h1.head
   ·have:=(List.pairwise_cons.1 h1.1).1 t h3;rw[ar,if_neg (by omega),nK h1.tail h3];grind
theorem za{l:List Tm}{t:Tm}(h:t∈dU l):∃ u∈l,u.1=t.1:=by
 obtain⟨h1,h2,_⟩:=eg l;refine vn ?_;rw[←h2,nK h1 h];exact h1.2 t h
def y6(a:At):Prop:=je a.op∧tb a.e.t≤100000∧bz a.e.c≤100000∧∀ t∈a.e.t,0≤t.1∧t.1≤1000000
theorem tS(a:At)(i:Int)(hi:0≤i∧i≤1000000)(hf:y6 a):FnK Tryz.prog 146 Tab [.g (fG a),.d (.v (.int .i64 i))] [.g (aq (qZ i a))]:=by
 obtain⟨ho,h1,h2,h3⟩:=hf;have hb:=qO a.e.t;have hv:∀ t∈dU a.e.t,0≤t.1∧t.1≤1000000:=fun t ht=>by
  obtain⟨u,hu,e⟩:=za ht;have:=h3 u hu;omega
 have hbz:∀ t∈dU a.e.t,bz t.2≤100000:=fun t ht=>by have:=mc ht;omega
 have hlen:=kJ (dU a.e.t);have hcan:=wO a.e (by omega);have hneg:=yq a.e.c;have hnum:=kq (k:=100000) (-a.e.c) (jI (by rw[fC];exact h2)) (by decide);have hlit:([[.v (.string (tx []))],[.v (.string (tx [60,61]))],[.v (.string (tx [60]))],[.v (.string (tx [61]))]]:List (List D))[a.op.toNat]?=some [.v (.string (tx (vM a.op)))]:=by
  unfold je at ho;have:a.op=1∨a.op=2∨a.op=3:=by omega
  rcases this with h | h | h<;>rw[h]<;>rfl
 have hop0:a.op=(a.op.toNat:Int):=by unfold je at ho;omega
 unfold qZ;generalize dU a.e.t=cl at hb hv hbz hlen hcan ⊢;obtain⟨⟨ts,c⟩,op⟩:=a;dsimp only at hcan hneg hnum hlit hop0 ⊢;rw[show fG ⟨⟨ts,c⟩,op⟩=fc ⟨ts,c⟩++[.v (.int .i64 op)]from rfl];have hml:(cl.map dw).length=cl.length:=List.length_map ..;refine FnK.of Tryz.func146 rfl (by kernel_rfl) Tryz.ntmps146 Tryz.results146 rfl fun w0 S0 hK0=>?_;refine wn ?_;refine c1 hcan ?_;refine wn ?_;refine c1 (eA [43]) ?_;((try (first | intro K ms hms hK | intro K hK));(first | apply Ch.ef | apply Ch.bU);exact rfl;exact rfl;exact Do.rq rfl rfl rfl rfl rfl rfl rfl rfl;exact rfl;exact rfl);refine wn ?_;refine AC.loop (X:=Nat) (fun j=>⟨[(1,.d (.v (.int .i64 i))),(2,.p 2 0),(4,.p 4 0),(5,.p 5 0),(6,.r 13 j),(15,.d (.l (cl.map dw))),(16,.d (.v (.int .i64 (cl.length:Int)))),(17,.d (.v (.int .i64 (j:Int))))],[(2,.box 157 ((fc ⟨ts,c⟩++[D.v (.int .i64 op)]).map .d)),(4,.box 188 [.d (.v (.bool false)),.d (.v (.string ⟨#[]⟩)),.d .n]),(5,.box 155 ((fc ⟨cl,c⟩).map .d)),(13,.row j 188 3 ((aH [43]::(cl.take j).map (uG i)).map aq))]⟩) (fun j=>j≤cl.length) (fun j=>cl.length-j) 0 (Nat.zero_le _) ⟨rfl,rfl,rfl,rfl,rfl,rfl,rfl,rfl,trivial⟩ ⟨rfl,rfl,rfl,rfl,trivial⟩ ?_;intro j hj;dsimp only at hj ⊢;refine wn ?_;refine s1 (fun g1=>?_) (fun g1=>?_)
 ·have hj1:j<cl.length:=by omega
  have hg:cl[j]?=some cl[j]:=List.getElem?_eq_getElem hj1;have hmj:cl[j]∈cl:=List.getElem_mem hj1;have hts:(aH [43]::(cl.take (j+1)).map (uG i)).map aq=(aH [43]::(cl.take j).map (uG i)).map aq++[aq (uG i cl[j])]:=by
   rw[List.take_succ_eq_append_getElem hj1];simp only[List.map_cons,List.map_append,List.map_nil,List.cons_append]
  have v1:=hv _ hmj;have v2:=hbz _ hmj;generalize cl[j]=t at hg hts v1 v2;obtain⟨tv,tc⟩:=t;dsimp only at v1 v2;refine wn ?_;refine c1 (eA [42]) ?_;refine wn ?_;refine c1 (kq (k:=100000) tc (jI v2) (by decide)) ?_;refine wn ?_;refine c1 (ze tv i v1 hi) ?_;((try (first | intro K ms hms hK | intro K hK));(first | apply Ch.go | apply Ch.ah);exact rfl;exact rfl;exact Loc.df rfl rfl rfl rfl rfl rfl rfl);refine c1 (oO [aH [42],aH (cr tc),aH (lE tv i)] (by simp)) ?_;((try (first | intro K ms hms hK | intro K hK));(first | apply Ch.go | apply Ch.ah);exact rfl;exact rfl;exact Loc.df rfl rfl rfl rfl rfl rfl rfl);refine wn ?_;exact⟨j+1,hj1,by omega,⟨rfl,rfl,rfl,rfl,rfl,rfl,rfl,rfl,trivial⟩,⟨rfl,rfl,rfl,by rw[hts];rfl,trivial⟩⟩
 ·obtain rfl:j=cl.length:=by omega
  rw[List.take_length];have hrow:=oO [aH (vM op),.mk false [] (aH [43]::cl.map (uG i)),aH (cr (-c))] (by simp);rw[List.map_cons,List.map_cons,List.map_cons,List.map_nil,bE false [] (aH [43]::cl.map (uG i))]at hrow;(first | intro K ms hms hK | intro K hK | skip);refine Ch.br 6 rfl rfl ?_;refine wk ?_;((try (first | intro K ms hms hK | intro K hK));(first | apply Ch.go | apply Ch.ah);exact rfl;exact rfl;exact Loc.idx (i:=op.toNat) (cs:=[.v (.string (tx (vM op)))]) rfl rfl rfl hop0 hlit rfl);refine wk ?_;refine c1 (eA (vM op)) ?_;refine wk ?_;refine c1 hneg ?_;refine c1 hnum ?_;refine wk ?_;refine c1 hrow ?_;refine wk ?_;exact⟨.cn rfl rfl inferInstance rfl ⟨.inl rfl,.inl rfl,.inl rfl,trivial⟩,trivial⟩
def lB(k:Int):List UInt8:=if k=2 then [110,111,116]else if k=3 then [97,110,100]else [111,114]
def EU:At:=⟨⟨[],0⟩,1⟩
mutual
noncomputable def js (ats:List At)(i:Int):FT→ST
 | .mk k a s=>if k=1 then qZ i (ats.getD a.toNat EU)else if k=5 then aH [116,114,117,101]else if k=6 then aH [102,97,108,115,101]else .mk false [] (aH (lB k)::oF ats i s)
noncomputable def oF (ats:List At)(i:Int):List FT→List ST
 | []=>[]
 | f::r=>js ats i f::oF ats i r
end
theorem vy(ats:List At)(i k a:Int)(s:List FT):js ats i (.mk k a s)=if k=1 then qZ i (ats.getD a.toNat EU)else if k=5 then aH [116,114,117,101]else if k=6 then aH [102,97,108,115,101]else .mk false [] (aH (lB k)::oF ats i s):=by rw[js]
theorem r6(ats:List At)(i:Int):∀ s:List FT,oF ats i s=s.map (js ats i)
 | []=>by rw[oF];rfl
 | f::r=>by rw[oF,r6 ats i r];rfl
theorem Em{k a:Int}{s:List FT}{n:Int}(h:dH (.mk k a s) n=true):1≤k∧k≤6:=by
 rw[dH]at h;by_cases h1:1≤k∧k≤6
 ·exact h1
 ·exfalso
  repeat' split at h
  all_goals first | omega | cases h
theorem sR:∀ s:List FT,(s.length:Int)≤bW s
 | []=>by rw[bW];exact Int.le_refl _
 | f::r=>by have:=sR r;have:=iT f;rw[bW];simp only[List.length_cons];omega
theorem tY:∀ {s:List FT} {g:FT},g∈s→cN g≤bW s
 | f::r,g,h=>by
   rw[bW];have:=jw r;have:=iT f;rcases List.mem_cons.1 h with rfl | h
   ·omega
   ·have:=tY h;omega
theorem Cc(k a:Int)(s:List FT):cN (.mk k a s)=1+bW s:=by rw[cN]
theorem zk(p:PP)(i:Int)(hi:0≤i∧i≤1000000)(hf:∀ a∈p.ats,y6 a):∀ (n:Nat) (f:FT),iN f<n→dG f→cN f≤20000→dH f p.ats.length=true→FnK Tryz.prog 90 Tab [.g (fi p),.g (aM f),.d (.v (.int .i64 i))] [.g (aq (js p.ats i f))]:=by
 intro n
 induction n with
 | zero=>intro f h;omega
 | succ n ih=>
 intro f hm hok hnd hsh;obtain⟨k,a,s⟩:=f;obtain⟨hsl,hsg⟩:=kT hok;have hk:=Em hsh;rw[Cc]at hnd;have hsl2:=sR s;obtain⟨bx,ats,bad⟩:=p;dsimp only at hf ih hsh ⊢;rw[show fi ⟨bx,ats,bad⟩=[.l (bx.map fe),.l (ats.map fG)]++aM bad from rfl,vy,gu];have hml:(ats.map fG).length=ats.length:=List.length_map ..;have hsm:(s.map aM).length=s.length:=List.length_map ..;by_cases k1:k=1
 ·subst k1;obtain⟨a0,a1⟩:=As hsh;have hal:a.toNat<ats.length:=by omega
  have hg:ats[a.toNat]?=some ats[a.toNat]:=List.getElem?_eq_getElem hal;have hc:=tS ats[a.toNat] i hi (hf _ (List.getElem_mem hal));rw[if_pos rfl,List.getD_eq_getElem?_getD,hg,Option.getD_some];generalize ats[a.toNat]=at' at hg hc ⊢;refine FnK.of Tryz.func90 rfl (by kernel_rfl) Tryz.ntmps90 Tryz.results90 rfl fun w0 S0 hK0=>?_;refine wk ?_;((try (first | intro K ms hms hK | intro K hK));(first | apply Ch.go | apply Ch.ah);exact rfl;exact rfl;exact Loc.ea (i:=a.toNat) rfl rfl rfl (by omega) hg rfl);refine wk ?_;refine c1 hc ?_;refine wk ?_;exact⟨.cn rfl rfl inferInstance rfl ⟨.inl rfl,.inl rfl,.inl rfl,trivial⟩,trivial⟩
 rw[if_neg k1];by_cases k5:k=5
 ·subst k5;rw[if_pos rfl];refine FnK.of Tryz.func90 rfl (by kernel_rfl) Tryz.ntmps90 Tryz.results90 rfl fun w0 S0 hK0=>?_;refine wk ?_;refine c1 (eA [116,114,117,101]) ?_;refine wk ?_;exact⟨.cn rfl rfl inferInstance rfl ⟨.inl rfl,.inl rfl,.inl rfl,trivial⟩,trivial⟩
 rw[if_neg k5];by_cases k6:k=6
 ·subst k6;rw[if_pos rfl];refine FnK.of Tryz.func90 rfl (by kernel_rfl) Tryz.ntmps90 Tryz.results90 rfl fun w0 S0 hK0=>?_;refine wk ?_;refine c1 (eA [102,97,108,115,101]) ?_;refine wk ?_;exact⟨.cn rfl rfl inferInstance rfl ⟨.inl rfl,.inl rfl,.inl rfl,trivial⟩,trivial⟩
 rw[if_neg k6];have hk2:k=2∨k=3∨k=4:=by omega
 have hlit:([[.v (.string (tx []))],[.v (.string (tx []))],[.v (.string (tx [110,111,116]))],[.v (.string (tx [97,110,100]))],[.v (.string (tx [111,114]))]]:List (List D))[k.toNat]?=some [.v (.string (tx (lB k)))]:=by
  rcases hk2 with h | h | h<;>rw[h]<;>rfl
 have hk0:k=(k.toNat:Int):=by omega
 have hsub:∀ g∈s,iN g<n∧dG g∧cN g≤20000∧dH g ats.length=true:=fun g hg=>by
  refine⟨by have:=FT.lt (k:=k) (a:=a) hg;omega,hsg g hg,by have:=tY hg;omega,?_⟩;rcases hk2 with h | h | h
  ·subst h;exact(Aw hsh).2 g hg
  ·exact sI (.inl h) hsh g hg
  ·exact sI (.inr h) hsh g hg
 rw[r6,bE];refine FnK.of Tryz.func90 rfl (by kernel_rfl) Tryz.ntmps90 Tryz.results90 rfl fun w0 S0 hK0=>?_;refine wn ?_;((try (first | intro K ms hms hK | intro K hK));(first | apply Ch.go | apply Ch.ah);exact rfl;exact rfl;exact Loc.df rfl rfl rfl rfl rfl rfl rfl);refine wn ?_;((try (first | intro K ms hms hK | intro K hK));(first | apply Ch.go | apply Ch.ah);exact rfl;exact rfl;exact Loc.idx (i:=k.toNat) (cs:=[.v (.string (tx (lB k)))]) rfl rfl rfl hk0 hlit rfl);refine wn ?_;refine c1 (eA (lB k)) ?_;((try (first | intro K ms hms hK | intro K hK));(first | apply Ch.ef | apply Ch.bU);exact rfl;exact rfl;exact Do.rq rfl rfl rfl rfl rfl rfl rfl rfl;exact rfl;exact rfl);refine wn ?_;refine AC.loop (X:=Nat) (fun j=>⟨[(2,.d (.v (.int .i64 i))),(3,.p 3 0),(4,.p 4 0),(6,.p 6 0),(7,.r 34 j),(36,.d (.l (s.map aM))),(37,.d (.v (.int .i64 (s.length:Int)))),(38,.d (.v (.int .i64 (j:Int))))],[(3,.box 83 (([D.l (bx.map fe),D.l (ats.map fG)]++aM bad).map .d)),(6,.box 188 [.d (.v (.bool false)),.d (.v (.string ⟨#[]⟩)),.d .n]),(34,.row j 188 3 ((aH (lB k)::(s.take j).map (js ats i)).map aq))]⟩) (fun j=>j≤s.length) (fun j=>s.length-j) 0 (Nat.zero_le _) ⟨rfl,rfl,rfl,rfl,rfl,rfl,rfl,rfl,trivial⟩ ⟨rfl,rfl,rfl,trivial⟩ ?_;intro j hj;dsimp only at hj ⊢;refine wn ?_;refine s1 (fun g1=>?_) (fun g1=>?_)
 ·have hj1:j<s.length:=by omega
  have hg:s[j]?=some s[j]:=List.getElem?_eq_getElem hj1;obtain⟨q1,q2,q4,q3⟩:=hsub _ (List.getElem_mem hj1);have hts:(aH (lB k)::(s.take (j+1)).map (js ats i)).map aq=(aH (lB k)::(s.take j).map (js ats i)).map aq++[aq (js ats i s[j])]:=by
   rw[List.take_succ_eq_append_getElem hj1];simp only[List.map_cons,List.map_append,List.map_nil,List.cons_append]
  have hi2:=ih s[j] q1 q2 q4 q3;generalize s[j]=g at hg hts hi2;refine wn ?_;refine c1 hi2 ?_;((try (first | intro K ms hms hK | intro K hK));(first | apply Ch.go | apply Ch.ah);exact rfl;exact rfl;exact Loc.df rfl rfl rfl rfl rfl rfl rfl);refine wn ?_;exact⟨j+1,hj1,by omega,⟨rfl,rfl,rfl,rfl,rfl,rfl,rfl,rfl,trivial⟩,⟨rfl,rfl,by rw[hts];rfl,trivial⟩⟩
 ·obtain rfl:j=s.length:=by omega
  rw[List.take_length];(first | intro K ms hms hK | intro K hK | skip);refine Ch.br 7 rfl rfl ?_;refine wk ?_;exact⟨.cn rfl rfl inferInstance rfl ⟨.inl rfl,.inl rfl,.inl rfl,trivial⟩,trivial⟩
def te(s:Rat×Rat):ST:= .mk false [] [aH (cr s.1),aH (cr s.2)]
noncomputable def fu (p:PP)(i:Int):List ST:=[.mk false [] (aH [98,111,120]::p.box.map te),.mk false [] [aH [98,97,100],js p.ats i p.bad]]
def Cg(e:Int):List DV:=[.d (.v (.string (tx []))),.d (.v (.int .i64 e))]
noncomputable def zE (p:PP)(i o:Int):List DV:=if dJ (dD p.bad p.ats.length) p.box p.ats i o≠0 then Cg (dJ (dD p.bad p.ats.length) p.box p.ats i o)else if pH (fu p i)≠0∨1000000<(eL (fu p i)).length then Cg 2 else [.d (.v (.string (tx (eL (fu p i))))),.d (.v (.int .i64 0))]
theorem xM(p:PP)(i o:Int)(hp:lJ 100000 p)(hlp:ss p)(hok:dG p.bad)(hf:dJ (dD p.bad p.ats.length) p.box p.ats i o=0→(0≤i∧i≤1000000)∧cN p.bad≤20000∧dH p.bad p.ats.length=true∧(∀a∈p.ats,y6 a)∧iF (fu p i)∧(eL (fu p i)).length≤1000000000000):FnK Tryz.prog 41 Tab [.g (fi p),.d (.v (.int .i64 i)),.d (.v (.int .i64 o))] (zE p i o):=by
 have hck:=nI p i o hp (by decide) hlp hok;unfold zE;obtain⟨R,hR⟩:∃ R,dJ (dD p.bad p.ats.length) p.box p.ats i o=R:=⟨_,rfl⟩
 rw[hR]at hck hf ⊢;have hpp:fi p=[.l (p.box.map fe),.l (p.ats.map fG)]++aM p.bad:=rfl;by_cases h0:R≠0
 ·rw[if_pos h0];rw[hpp]at hck ⊢;refine FnK.of Tryz.func41 rfl (by kernel_rfl) Tryz.ntmps41 Tryz.results41 rfl fun w0 S0 hK0=>?_;refine wn ?_;refine c1 hck ?_;refine wn ?_;exact⟨.d rfl (.inl rfl),.d rfl (.inl rfl),trivial⟩
 rw[if_neg h0];have h0':R=0:=Classical.byContradiction h0;obtain⟨hi,hnd,hsh,hfa,hox,hlen⟩:=hf h0';have htl:=zk p i hi hfa _ p.bad (Nat.lt_succ_self _) hok hnd hsh;have hpr:=xH (fu p i) (by simp[fu]) hox hlen;unfold B6 at hpr;have hrows:(fu p i).map aq=[[.v (.bool false),.v (.string (tx [])),.l ((aH [98,111,120]::p.box.map te).map aq)],aq (.mk false [] [aH [98,97,100],js p.ats i p.bad])]:=by
  unfold fu;rw[List.map_cons,List.map_cons,List.map_nil,bE false [] (aH [98,111,120]::p.box.map te)]
 rw[hrows]at hpr;generalize eL (fu p i)=T at hpr hlen ⊢;obtain⟨e,he⟩:∃ e,pH (fu p i)=e:=⟨_,rfl⟩
 rw[he]at hpr ⊢;clear hox he hrows hf hR;have hrow:=oO [aH [98,97,100],js p.ats i p.bad] (by simp);have hsd:=hp.1;have hbl:=hp.2;rw[hpp]at hck htl ⊢;clear hpp;have hsm:(p.box.map fe).length=p.box.length:=List.length_map ..;generalize js p.ats i p.bad=TT at htl hpr hrow;obtain⟨bx,ats,bad⟩:=p;dsimp only at hck htl hsd hbl hsm ⊢;refine FnK.of Tryz.func41 rfl (by kernel_rfl) Tryz.ntmps41 Tryz.results41 rfl fun w0 S0 hK0=>?_;refine wn ?_;refine c1 hck ?_;refine wn ?_;refine c1 (eA [98,111,120]) ?_;((try (first | intro K ms hms hK | intro K hK));(first | apply Ch.ef | apply Ch.bU);exact rfl;exact rfl;exact Do.rq rfl rfl rfl rfl rfl rfl rfl rfl;exact rfl;exact rfl);refine wn ?_;refine AC.loop (X:=Nat) (fun j=>⟨[(1,.d (.v (.int .i64 i))),(2,.d (.v (.int .i64 o))),(3,.p 3 0),(9,.r 22 j),(24,.d (.l (bx.map fe))),(25,.d (.v (.int .i64 (bx.length:Int)))),(26,.d (.v (.int .i64 (j:Int))))],[(3,.box 83 (([D.l (bx.map fe),D.l (ats.map fG)]++aM bad).map .d)),(22,.row j 188 3 ((aH [98,111,120]::(bx.take j).map te).map aq))]⟩) (fun j=>j≤bx.length) (fun j=>bx.length-j) 0 (Nat.zero_le _) ⟨rfl,rfl,rfl,rfl,rfl,rfl,rfl,trivial⟩ ⟨rfl,rfl,trivial⟩ ?_;intro j hj;dsimp only at hj ⊢;refine wn ?_;refine s1 (fun g1=>?_) (fun g1=>?_)
 ·have hj1:j<bx.length:=by omega
  have hg:bx[j]?=some bx[j]:=List.getElem?_eq_getElem hj1;obtain⟨q1,q2⟩:=hsd _ (List.getElem_mem hj1);have hts:(aH [98,111,120]::(bx.take (j+1)).map te).map aq=(aH [98,111,120]::(bx.take j).map te).map aq++[aq (te bx[j])]:=by
   rw[List.take_succ_eq_append_getElem hj1];simp only[List.map_cons,List.map_append,List.map_nil,List.cons_append]
  generalize bx[j]=g at hg hts q1 q2;obtain⟨lo,hi'⟩:=g;dsimp only at q1 q2;refine wn ?_;refine c1 (kq lo q1 (by decide)) ?_;refine wn ?_;refine c1 (kq hi' q2 (by decide)) ?_;((try (first | intro K ms hms hK | intro K hK));(first | apply Ch.go | apply Ch.ah);exact rfl;exact rfl;exact Loc.df rfl rfl rfl rfl rfl rfl rfl);refine c1 (oO [aH (cr lo),aH (cr hi')] (by simp)) ?_;((try (first | intro K ms hms hK | intro K hK));(first | apply Ch.go | apply Ch.ah);exact rfl;exact rfl;exact Loc.df rfl rfl rfl rfl rfl rfl rfl);refine wn ?_;exact⟨j+1,hj1,by omega,⟨rfl,rfl,rfl,rfl,rfl,rfl,rfl,trivial⟩,⟨rfl,by rw[hts];rfl,trivial⟩⟩
 ·obtain rfl:j=bx.length:=by omega
  rw[List.take_length];(first | intro K ms hms hK | intro K hK | skip);refine Ch.br 9 rfl rfl ?_;refine wk ?_;refine c1 (eA [98,97,100]) ?_;refine wk ?_;refine c1 htl ?_;refine wk ?_;refine c1 hrow ?_;refine wk ?_;by_cases he:e=0
  ·rw[if_pos he]at hpr;refine c1 hpr ?_;refine wk ?_;((try (first | intro K ms hms hK | intro K hK));(first | apply Ch.go | apply Ch.ah);exact rfl;exact rfl;exact Loc.bF rfl rfl (by kernel_rfl));rw[aB];by_cases hT:1000000<T.length
   ·refine wk ?_;rw[if_pos (.inr hT)];exact⟨.d rfl (.inl rfl),.d rfl (.inl rfl),trivial⟩
   ·refine wk ?_;rw[if_neg (fun h=>h.elim (fun h=>h he) hT)];exact⟨.d rfl (.inl rfl),.d rfl (.inl rfl),trivial⟩
  ·rw[if_neg he]at hpr;refine c1 hpr ?_;refine wk ?_;rw[if_pos (.inl he)];exact⟨.d rfl (.inl rfl),.d rfl (.inl rfl),trivial⟩
