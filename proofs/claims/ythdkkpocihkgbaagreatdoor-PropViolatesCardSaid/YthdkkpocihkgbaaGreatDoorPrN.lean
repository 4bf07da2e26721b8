import Derived.Test.YthdkkpocihkgbaaGreatDoorPrJ
import Derived.Test.YthdkkpocihkgbaaGreatDoorOpenN
set_option maxRecDepth 100000
set_option maxHeartbeats 8000000
namespace Go.Proofs.YthdkkpocihkgbaaGreatDoor
open Go.RowKit
attribute [local irreducible] AC Do St
theorem cloneRow{xs:List (List D)}(hk:∀ c∈xs,c.length=3)(hlen:xs.length≤1000000000):FnRow Tryz.prog 56 [.d (.l xs)] 119 3 xs:=by
 refine FnRow.of Tryz.func56 rfl (by kernel_rfl) Tryz.ntmps56 Tryz.results56 rfl fun w0 S0=>?_;refine wk ?_;(first | intro K ms hms hK | intro K hK);refine Chain.eqN rfl rfl rfl rfl (fun h u=>?_) (fun u=>?_)
 ·subst h
  (repeat (first
    | refine Chain.no rfl rfl ?_
    | refine Chain.noD rfl rfl ?_
    | ((first | apply Chain.go | apply Chain.goD);exact rfl;exact rfl;first
      | exact Loc.move (v:= .d _) rfl rfl
      | exact Loc.assign (v:= .d _) rfl rfl
      | exact Loc.loadP1 rfl rfl rfl rfl
      | exact Loc.loadQ1 rfl rfl rfl
      | exact Loc.fieldP rfl rfl rfl
      | exact Loc.fieldQ rfl rfl
      | exact Loc.pickT (v:= .d _) rfl rfl rfl
      | exact Loc.pickF (v:= .d _) rfl rfl rfl
      | exact Loc.loadPn rfl rfl rfl rfl (by kernel_rfl)
      | exact Loc.loadQw rfl rfl rfl
      | exact Loc.loadQn rfl rfl rfl rfl
      | exact Loc.idxM rfl rfl rfl rfl (by assumption) rfl
      | exact Loc.lenM rfl rfl
      | exact Loc.lenN rfl rfl
      | exact Loc.lenR rfl rfl rfl
      | exact Loc.len rfl rfl
      | exact Loc.lssT rfl rfl rfl (by omega)
      | exact Loc.lssF rfl rfl rfl (by omega)
      | exact Loc.eqlT rfl rfl rfl (by omega)
      | exact Loc.eqlF rfl rfl rfl (by omega)
      | exact Loc.neqT rfl rfl rfl (by omega)
      | exact Loc.neqF rfl rfl rfl (by omega)
      | exact Loc.gtrT rfl rfl rfl (by omega)
      | exact Loc.gtrF rfl rfl rfl (by omega)
      | exact Loc.geqT rfl rfl rfl (by omega)
      | exact Loc.geqF rfl rfl rfl (by omega)
      | exact Loc.leqT rfl rfl rfl (by omega)
      | exact Loc.leqF rfl rfl rfl (by omega)
      | exact Loc.add rfl rfl rfl (IntWalk.i64_in _ (by omega))
      | exact Loc.sub rfl rfl rfl (IntWalk.i64_in _ (by omega))
      | exact Loc.notT rfl rfl
      | exact Loc.notF rfl rfl
      | exact Loc.fieldE rfl rfl rfl
      | exact Loc.loadE1 rfl rfl rfl (by assumption) rfl
      | exact Loc.idxR rfl rfl rfl rfl rfl (by omega) rfl
      | exact Loc.move (v:= .g _) rfl rfl
      | exact Loc.move (v:= .p _ _) rfl rfl
      | exact Loc.move (v:= .r _ _) rfl rfl
      | exact Loc.move (v:= .t _) rfl rfl
      | exact Loc.assign (v:= .g _) rfl rfl
      | exact Loc.assign (v:= .r _ _) rfl rfl
      | exact Loc.assign (v:= .p _ _) rfl rfl
      | exact Loc.extract (v:= .d _) rfl rfl rfl rfl
      | exact Loc.extract (v:= .g _) rfl rfl rfl rfl
      | exact Loc.pickT (v:= .g _) rfl rfl rfl
      | exact Loc.pickF (v:= .g _) rfl rfl rfl
      | exact Loc.move (v:= .un) rfl rfl
      | exact Loc.build rfl rfl rfl rfl
      | exact Loc.litP rfl rfl rfl rfl rfl rfl rfl)
    | refine Chain.nil0 (hK _ ?_)
    | ((first | apply Chain.st | apply Chain.stD);exact rfl;exact rfl;(first
      | exact Do.storeP rfl rfl rfl rfl .g rfl rfl rfl
      | exact Do.storeP rfl rfl rfl rfl .d rfl rfl rfl
      | exact Do.storeP rfl rfl rfl rfl (.r rfl) rfl rfl rfl);exact rfl;exact rfl)
    | ((first | apply Chain.ef | apply Chain.efD);exact rfl;exact rfl;(first
      | exact Do.alloc rfl rfl rfl
      | exact Do.box rfl rfl rfl .g rfl
      | exact Do.box rfl rfl rfl .d rfl
      | exact Do.lit0 rfl rfl
      | exact Do.append1 rfl rfl rfl rfl rfl rfl (by first | omega | (simp;omega))
      | exact Do.appendN1 rfl rfl rfl rfl rfl rfl);exact rfl;exact rfl)
    | refine Chain.nilD (by rw[hms];kernel_rfl) (hK _ ?_)
    | refine Chain.noN rfl rfl ?_))
  refine AC.condT rfl ?_;refine AC.seq ?_;refine AC.reg (by decide+kernel) ?_;(first | intro K ms hms hK | intro K hK)
  (repeat (first
    | refine Chain.no rfl rfl ?_
    | refine Chain.noD rfl rfl ?_
    | ((first | apply Chain.go | apply Chain.goD);exact rfl;exact rfl;first
      | exact Loc.move (v:= .d _) rfl rfl
      | exact Loc.assign (v:= .d _) rfl rfl
      | exact Loc.loadP1 rfl rfl rfl rfl
      | exact Loc.loadQ1 rfl rfl rfl
      | exact Loc.fieldP rfl rfl rfl
      | exact Loc.fieldQ rfl rfl
      | exact Loc.pickT (v:= .d _) rfl rfl rfl
      | exact Loc.pickF (v:= .d _) rfl rfl rfl
      | exact Loc.loadPn rfl rfl rfl rfl (by kernel_rfl)
      | exact Loc.loadQw rfl rfl rfl
      | exact Loc.loadQn rfl rfl rfl rfl
      | exact Loc.idxM rfl rfl rfl rfl (by assumption) rfl
      | exact Loc.lenM rfl rfl
      | exact Loc.lenN rfl rfl
      | exact Loc.lenR rfl rfl rfl
      | exact Loc.len rfl rfl
      | exact Loc.lssT rfl rfl rfl (by omega)
      | exact Loc.lssF rfl rfl rfl (by omega)
      | exact Loc.eqlT rfl rfl rfl (by omega)
      | exact Loc.eqlF rfl rfl rfl (by omega)
      | exact Loc.neqT rfl rfl rfl (by omega)
      | exact Loc.neqF rfl rfl rfl (by omega)
      | exact Loc.gtrT rfl rfl rfl (by omega)
      | exact Loc.gtrF rfl rfl rfl (by omega)
      | exact Loc.geqT rfl rfl rfl (by omega)
      | exact Loc.geqF rfl rfl rfl (by omega)
      | exact Loc.leqT rfl rfl rfl (by omega)
      | exact Loc.leqF rfl rfl rfl (by omega)
      | exact Loc.add rfl rfl rfl (IntWalk.i64_in _ (by omega))
      | exact Loc.sub rfl rfl rfl (IntWalk.i64_in _ (by omega))
      | exact Loc.notT rfl rfl
      | exact Loc.notF rfl rfl
      | exact Loc.fieldE rfl rfl rfl
      | exact Loc.loadE1 rfl rfl rfl (by assumption) rfl
      | exact Loc.idxR rfl rfl rfl rfl rfl (by omega) rfl
      | exact Loc.move (v:= .g _) rfl rfl
      | exact Loc.move (v:= .p _ _) rfl rfl
      | exact Loc.move (v:= .r _ _) rfl rfl
      | exact Loc.move (v:= .t _) rfl rfl
      | exact Loc.assign (v:= .g _) rfl rfl
      | exact Loc.assign (v:= .r _ _) rfl rfl
      | exact Loc.assign (v:= .p _ _) rfl rfl
      | exact Loc.extract (v:= .d _) rfl rfl rfl rfl
      | exact Loc.extract (v:= .g _) rfl rfl rfl rfl
      | exact Loc.pickT (v:= .g _) rfl rfl rfl
      | exact Loc.pickF (v:= .g _) rfl rfl rfl
      | exact Loc.move (v:= .un) rfl rfl
      | exact Loc.build rfl rfl rfl rfl
      | exact Loc.litP rfl rfl rfl rfl rfl rfl rfl)
    | refine Chain.nil0 (hK _ ?_)
    | ((first | apply Chain.st | apply Chain.stD);exact rfl;exact rfl;(first
      | exact Do.storeP rfl rfl rfl rfl .g rfl rfl rfl
      | exact Do.storeP rfl rfl rfl rfl .d rfl rfl rfl
      | exact Do.storeP rfl rfl rfl rfl (.r rfl) rfl rfl rfl);exact rfl;exact rfl)
    | ((first | apply Chain.ef | apply Chain.efD);exact rfl;exact rfl;(first
      | exact Do.alloc rfl rfl rfl
      | exact Do.box rfl rfl rfl .g rfl
      | exact Do.box rfl rfl rfl .d rfl
      | exact Do.lit0 rfl rfl
      | exact Do.append1 rfl rfl rfl rfl rfl rfl (by first | omega | (simp;omega))
      | exact Do.appendN1 rfl rfl rfl rfl rfl rfl);exact rfl;exact rfl)
    | refine Chain.nilD (by rw[hms];kernel_rfl) (hK _ ?_)
    | refine Chain.noN rfl rfl ?_))
  refine AC.rowVar 2 7 119 3 rfl rfl ?_;refine wk ?_;exact⟨2,7,0,rfl,rfl,rfl⟩
 ·refine wk ?_;((try (first | intro K ms hms hK | intro K hK));(first | apply Chain.ef | apply Chain.efD);exact rfl;exact rfl;exact Do.append rfl rfl rfl rfl rfl hk (by simp;omega);exact rfl;exact rfl);refine wk ?_;exact⟨2,5,1,rfl,rfl,rfl⟩
def valsP(ats:List At)(p:List Rat):List Bool:=ats.map fun a=>sayB a.op (a.e.c+evalT p a.e.t)
def bdAtP(k n:Nat)(a:At):Prop:=Bd k a.e.c∧(∀t∈a.e.t,Bd k t.2)∧a.e.t.length≤n
theorem pChk_0{e i o:Int}{box:List (Rat×Rat)}{ats:List At}(h:pChkE e box ats i o=0):e=0∧ats.length≤200∧∀ a∈ats,okOp a.op:=by
 unfold pChkE at h;split at h
 ·omega
 ·rename_i h1;split at h
  ·omega
  ·rename_i h2;split at h
   ·split at h
    ·rename_i h3;refine⟨?_,?_,fun a ha=>?_⟩
     ·rcases Decidable.em (e=0)with g | g
      ·exact g
      ·exact absurd (.inl g) h2
     ·rcases Nat.lt_or_ge 200 ats.length with g | g
      ·exact absurd (.inl g) h1
      ·exact g
     ·have:=List.all_eq_true.1 h3 a ha;unfold okTm at this;rw[Bool.and_eq_true]at this;have h4:=this.1;unfold okOp;simp at h4;omega
    ·omega
   ·omega
theorem set_rep:∀ (vs:List Bool) (m:Nat) (b:Bool),(vs++List.replicate (m+1) false).set vs.length b=vs++[b]++List.replicate m false
 | [],_,_=>rfl
 | v::vs,m,b=>congrArg (v:: ·) (set_rep vs m b)
theorem violE{k:Nat}(p:PP)(x y:List Rat)(hp:bdPP k p)(hk:k≤25000000)(hlp:lenPP p)(hok:okT p.bad)(h0:pChkE (chkT p.bad p.ats.length) p.box p.ats x.length y.length≠0):Fn Tryz.prog 35 [.g (enPP p),.d (.l (x.map enR)),.d (.l (y.map enR))] [.d (.v (.bool false)),.d (.v (.int .i64 (pChkE (chkT p.bad p.ats.length) p.box p.ats x.length y.length)))]:=by
 have hc:=propCheck p x.length y.length hp hk hlp hok;generalize pChkE (chkT p.bad p.ats.length) p.box p.ats x.length y.length=e at hc h0 ⊢;obtain⟨bx,ats,bad⟩:=p;rw[show enPP ⟨bx,ats,bad⟩=[.l (bx.map enSd),.l (ats.map enA)]++enF bad from rfl]at hc ⊢;refine Fn.of Tryz.func35 rfl (by kernel_rfl) Tryz.ntmps35 Tryz.results35 rfl fun w0 S0=>?_;refine wk ?_;refine c1 hc ?_;refine wk ?_;exact⟨.d rfl (.inl rfl),.d rfl (.inl rfl),trivial⟩
theorem violF{k n:Nat}(p:PP)(x y:List Rat)(hp:bdPP k p)(hk0:0<k)(hk:k≤25000000)(hlp:lenPP p)(hok:okT p.bad)(hx:∀ q∈x,Bd k q)(hy:∀ q∈y,Bd k q)(hl:x.length+y.length≤1000)(ha:∀ a∈p.ats,bdAtP k n a)(hkn:(n+2)*(2*k+1)≤50000000)(h0:pChkE (chkT p.bad p.ats.length) p.box p.ats x.length y.length=0):Fn Tryz.prog 35 [.g (enPP p),.d (.l (x.map enR)),.d (.l (y.map enR))] [.d (.v (.bool (evT p.bad (valsP p.ats (x++y))&&insL p.box x))),.d (.v (.int .i64 0))]:=by
 have hc:=propCheck p x.length y.length hp hk hlp hok;obtain⟨e0,hal,hop⟩:=pChk_0 h0;rw[h0]at hc;have hin:=insideF p x hp hx (by omega);have hev:=logEval p.bad (valsP p.ats (x++y)) hok;unfold evR at hev;rw[show (valsP p.ats (x++y)).length=p.ats.length from List.length_map ..,if_pos e0]at hev;have hat:∀ q∈x++y,Bd k q:=fun q hq=>(List.mem_append.1 hq).elim (hx q) (hy q);obtain⟨bx,ats,bad⟩:=p;dsimp only at hin hev ha hal hop;rw[show enPP ⟨bx,ats,bad⟩=[.l (bx.map enSd),.l (ats.map enA)]++enF bad from rfl]at hc hin ⊢;show Fn _ _ _ [.d (.v (.bool (evT bad (valsP ats (x++y))&&insL bx x))),.d (.v (.int .i64 0))];have hmx:(x.map enR).length=x.length:=List.length_map ..;have hmy:(y.map enR).length=y.length:=List.length_map ..;refine Fn.of Tryz.func35 rfl (by kernel_rfl) Tryz.ntmps35 Tryz.results35 rfl fun w0 S0=>?_;refine wk ?_;refine c1 hc ?_;refine wk ?_;((try (first | intro K ms hms hK | intro K hK));(first | apply Chain.ef | apply Chain.efD);exact rfl;exact rfl;exact Do.makeM (f:=fun b=>[D.v (.bool b)]) false ats.length ats.length rfl rfl rfl rfl rfl rfl (Nat.le_refl _) (by omega);exact rfl;exact rfl);refine wk ?_;((try (first | intro K ms hms hK | intro K hK));(first | apply Chain.ef | apply Chain.efD);exact rfl;exact rfl;exact Do.callRow (cloneRow (xs:=x.map enR) (fun c hc=>by obtain⟨t,_,rfl⟩:=List.mem_map.1 hc;rfl) (by simp;omega)) rfl ⟨.inl rfl,trivial⟩ rfl;exact rfl;exact rfl);refine wk ?_
 ((try (first | intro K ms hms hK | intro K hK));(first | apply Chain.ef | apply Chain.efD);exact rfl;exact rfl;exact Do.append rfl rfl rfl rfl rfl (by intro z hz;obtain⟨q,_,rfl⟩:=List.mem_map.1 hz;rfl) (by simp;omega);exact rfl;exact rfl);refine wk ?_;refine AC.frzVar 10 rfl rfl ?_;rw[show (x.map enR++y.map enR)=(x++y).map enR from by simp];generalize x++y=pt at hat hev ⊢;have hvl:∀ i,(valsP (ats.take i) pt).length=(ats.take i).length:=fun i=>List.length_map ..;refine AC.loop (X:=Nat) (fun i=>⟨[(1,.d (.l (x.map enR))),(3,.p 3 0),(9,.r 27 0),(10,.d (.l (pt.map enR))),(33,.d (.l (ats.map enA))),(34,.d (.v (.int .i64 (ats.length:Int)))),(35,.d (.v (.int .i64 (i:Int))))],[(3,.box 83 (([D.l (bx.map enSd),D.l (ats.map enA)]++enF bad).map .d)),(27,.row 0 4 1 ((valsP (ats.take i) pt++List.replicate (ats.length-i) false).map fun b=>[.v (.bool b)]))]⟩) (fun i=>i≤ats.length) (fun i=>ats.length-i) 0 (Nat.zero_le _) ⟨rfl,rfl,rfl,rfl,rfl,rfl,rfl,trivial⟩ ⟨rfl,rfl,trivial⟩ ?_;intro i hi;dsimp only at hi ⊢;have hvi:=hvl i;rw[List.length_take]at hvi;have hrl:((valsP (ats.take i) pt++List.replicate (ats.length-i) false).map fun b=>[D.v (.bool b)]).length=ats.length:=by simp;omega
 refine wk ?_;refine s1 (fun g1=>?_) (fun g1=>?_)
 ·have hi1:i<ats.length:=by omega
  have hs:ats[i]?=some ats[i]:=List.getElem?_eq_getElem hi1;have hts:valsP (ats.take (i+1)) pt=valsP (ats.take i) pt++[sayB ats[i].op (ats[i].e.c+evalT pt ats[i].e.t)]:=by
   unfold valsP;rw[List.take_succ_eq_append_getElem hi1,List.map_append];rfl
  obtain⟨a1,a2,a3⟩:=ha _ (List.getElem_mem hi1);have ho:=hop _ (List.getElem_mem hi1);generalize ats[i]=a at hs hts a1 a2 a3 ho;have hh:=holdsF a pt k ho a1 a2 hat hk0 (Nat.le_trans (Nat.mul_le_mul_right _ (Nat.add_le_add_right a3 2)) hkn);generalize sayB a.op (a.e.c+evalT pt a.e.t)=v at hh hts;have hset:=set_rep (valsP (ats.take i) pt) (ats.length-(i+1)) v;rw[show ats.length-(i+1)+1=ats.length-i from by omega,show (valsP (ats.take i) pt).length=i from by omega,←hts]at hset;have hget:(valsP (ats.take i) pt++List.replicate (ats.length-i) false)[i]?=some false:=by
   rw[List.getElem?_append_right (by omega),List.getElem?_replicate,if_pos (by omega)]
  refine wk ?_;refine c1 hh ?_;refine wk ?_;((try (first | intro K ms hms hK | intro K hK));(first | apply Chain.st | apply Chain.stD);exact rfl;exact rfl;exact Do.setM v rfl rfl rfl hget rfl rfl rfl rfl rfl rfl;exact rfl;exact rfl);rw[hset];refine wk ?_;exact⟨i+1,hi1,by omega,⟨rfl,rfl,rfl,rfl,rfl,rfl,rfl,trivial⟩,⟨rfl,rfl,trivial⟩⟩
 ·obtain rfl:i=ats.length:=by omega
  rw[List.take_length,Nat.sub_self,List.replicate_zero,List.append_nil];(first | intro K ms hms hK | intro K hK | skip);refine Chain.frzVar 9 rfl rfl ?_;unfold enBo at hev;cases hw:evT bad (valsP ats pt)with
  | false=>
    rw[hw]at hev;refine wk ?_;refine c1 hev ?_;refine wk ?_;rw[hw];exact⟨.d rfl (.inl rfl),.d rfl (.inl rfl),trivial⟩
  | true=>
    rw[hw]at hev;refine wk ?_;refine c1 hev ?_;refine wk ?_;refine c1 hin ?_;refine wk ?_;rw[hw];exact⟨.d rfl (.inl rfl),.d rfl (.inl rfl),trivial⟩
end Go.Proofs.YthdkkpocihkgbaaGreatDoor
