import Derived.Test.YthdkkpocihkgbaaGreatDoorPrJ
import Derived.Test.YthdkkpocihkgbaaGreatDoorOpenN
import Derived.Test.YthdkkpocihkgbaaGreatDoorPrC
set_option maxRecDepth 100000
set_option maxHeartbeats 8000000
namespace Go.Proofs.YthdkkpocihkgbaaGreatDoor
open Go.RowKit
attribute [local irreducible] AC Do St
theorem cloneRow{xs:List (List D)}(hk:∀ c∈xs,c.length=3)(hlen:xs.length≤1000000000):FnRow Tryz.prog 56 [.d (.l xs)] 119 3 xs:=by
 refine FnRow.of Tryz.func56 rfl (by kernel_rfl) Tryz.ntmps56 Tryz.results56 rfl fun w0 S0=>?_;refine wk ?_;(first | intro K ms hms hK | intro K hK);refine Chain.eqN rfl rfl rfl rfl (fun h u=>?_) (fun u=>?_)
 ·subst h
  (repeat (first
    | refine Chain.no rfl rfl ?_
    | refine Chain.noD rfl rfl ?_
    | ((first | apply Chain.go | apply Chain.goD);exact rfl;exact rfl;first
      | exact Loc.move (v:= .d _) rfl rfl
      | exact Loc.assign (v:= .d _) rfl rfl
      | exact Loc.loadP1 rfl rfl rfl rfl
      | exact Loc.loadQ1 rfl rfl rfl
      | exact Loc.fieldP rfl rfl rfl
      | exact Loc.fieldQ rfl rfl
      | exact Loc.pickT (v:= .d _) rfl rfl rfl
      | exact Loc.pickF (v:= .d _) rfl rfl rfl
      | exact Loc.loadPn rfl rfl rfl rfl (by kernel_rfl)
      | exact Loc.loadQw rfl rfl rfl
      | exact Loc.loadQn rfl rfl rfl rfl
      | exact Loc.idxM rfl rfl rfl rfl (by assumption) rfl
      | exact Loc.lenM rfl rfl
      | exact Loc.lenN rfl rfl
      | exact Loc.lenR rfl rfl rfl
      | exact Loc.len rfl rfl
      | exact Loc.lssT rfl rfl rfl (by omega)
      | exact Loc.lssF rfl rfl rfl (by omega)
      | exact Loc.eqlT rfl rfl rfl (by omega)
      | exact Loc.eqlF rfl rfl rfl (by omega)
      | exact Loc.neqT rfl rfl rfl (by omega)
      | exact Loc.neqF rfl rfl rfl (by omega)
      | exact Loc.gtrT rfl rfl rfl (by omega)
      | exact Loc.gtrF rfl rfl rfl (by omega)
      | exact Loc.geqT rfl rfl rfl (by omega)
      | exact Loc.geqF rfl rfl rfl (by omega)
      | exact Loc.leqT rfl rfl rfl (by omega)
      | exact Loc.leqF rfl rfl rfl (by omega)
      | exact Loc.add rfl rfl rfl (IntWalk.i64_in _ (by omega))
      | exact Loc.sub rfl rfl rfl (IntWalk.i64_in _ (by omega))
      | exact Loc.notT rfl rfl
      | exact Loc.notF rfl rfl
      | exact Loc.fieldE rfl rfl rfl
      | exact Loc.loadE1 rfl rfl rfl (by assumption) rfl
      | exact Loc.idxR rfl rfl rfl rfl rfl (by omega) rfl
      | exact Loc.move (v:= .g _) rfl rfl
      | exact Loc.move (v:= .p _ _) rfl rfl
      | exact Loc.move (v:= .r _ _) rfl rfl
      | exact Loc.move (v:= .t _) rfl rfl
      | exact Loc.assign (v:= .g _) rfl rfl
      | exact Loc.assign (v:= .r _ _) rfl rfl
      | exact Loc.assign (v:= .p _ _) rfl rfl
      | exact Loc.extract (v:= .d _) rfl rfl rfl rfl
      | exact Loc.extract (v:= .g _) rfl rfl rfl rfl
      | exact Loc.pickT (v:= .g _) rfl rfl rfl
      | exact Loc.pickF (v:= .g _) rfl rfl rfl
      | exact Loc.move (v:= .un) rfl rfl
      | exact Loc.build rfl rfl rfl rfl
      | exact Loc.litP rfl rfl rfl rfl rfl rfl rfl)
    | refine Chain.nil0 (hK _ ?_)
    | ((first | apply Chain.st | apply Chain.stD);exact rfl;exact rfl;(first
      | exact Do.storeP rfl rfl rfl rfl .g rfl rfl rfl
      | exact Do.storeP rfl rfl rfl rfl .d rfl rfl rfl
      | exact Do.storeP rfl rfl rfl rfl (.r rfl) rfl rfl rfl);exact rfl;exact rfl)
    | ((first | apply Chain.ef | apply Chain.efD);exact rfl;exact rfl;(first
      | exact Do.alloc rfl rfl rfl
      | exact Do.box rfl rfl rfl .g rfl
      | exact Do.box rfl rfl rfl .d rfl
      | exact Do.lit0 rfl rfl
      | exact Do.append1 rfl rfl rfl rfl rfl rfl (by first | omega | (simp;omega))
      | exact Do.appendN1 rfl rfl rfl rfl rfl rfl);exact rfl;exact rfl)
    | refine Chain.nilD (by rw[hms];kernel_rfl) (hK _ ?_)
    | refine Chain.noN rfl rfl ?_))
  refine AC.condT rfl ?_;refine AC.seq ?_;refine AC.reg (by decide+kernel) ?_;(first | intro K ms hms hK | intro K hK)
  (repeat (first
    | refine Chain.no rfl rfl ?_
    | refine Chain.noD rfl rfl ?_
    | ((first | apply Chain.go | apply Chain.goD);exact rfl;exact rfl;first
      | exact Loc.move (v:= .d _) rfl rfl
      | exact Loc.assign (v:= .d _) rfl rfl
      | exact Loc.loadP1 rfl rfl rfl rfl
      | exact Loc.loadQ1 rfl rfl rfl
      | exact Loc.fieldP rfl rfl rfl
      | exact Loc.fieldQ rfl rfl
      | exact Loc.pickT (v:= .d _) rfl rfl rfl
      | exact Loc.pickF (v:= .d _) rfl rfl rfl
      | exact Loc.loadPn rfl rfl rfl rfl (by kernel_rfl)
      | exact Loc.loadQw rfl rfl rfl
      | exact Loc.loadQn rfl rfl rfl rfl
      | exact Loc.idxM rfl rfl rfl rfl (by assumption) rfl
      | exact Loc.lenM rfl rfl
      | exact Loc.lenN rfl rfl
      | exact Loc.lenR rfl rfl rfl
      | exact Loc.len rfl rfl
      | exact Loc.lssT rfl rfl rfl (by omega)
      | exact Loc.lssF rfl rfl rfl (by omega)
      | exact Loc.eqlT rfl rfl rfl (by omega)
      | exact Loc.eqlF rfl rfl rfl (by omega)
      | exact Loc.neqT rfl rfl rfl (by omega)
      | exact Loc.neqF rfl rfl rfl (by omega)
      | exact Loc.gtrT rfl rfl rfl (by omega)
      | exact Loc.gtrF rfl rfl rfl (by omega)
      | exact Loc.geqT rfl rfl rfl (by omega)
      | exact Loc.geqF rfl rfl rfl (by omega)
      | exact Loc.leqT rfl rfl rfl (by omega)
      | exact Loc.leqF rfl rfl rfl (by omega)
      | exact Loc.add rfl rfl rfl (IntWalk.i64_in _ (by omega))
      | exact Loc.sub rfl rfl rfl (IntWalk.i64_in _ (by omega))
      | exact Loc.notT rfl rfl
      | exact Loc.notF rfl rfl
      | exact Loc.fieldE rfl rfl rfl
      | exact Loc.loadE1 rfl rfl rfl (by assumption) rfl
      | exact Loc.idxR rfl rfl rfl rfl rfl (by omega) rfl
      | exact Loc.move (v:= .g _) rfl rfl
      | exact Loc.move (v:= .p _ _) rfl rfl
      | exact Loc.move (v:= .r _ _) rfl rfl
      | exact Loc.move (v:= .t _) rfl rfl
      | exact Loc.assign (v:= .g _) rfl rfl
      | exact Loc.assign (v:= .r _ _) rfl rfl
      | exact Loc.assign (v:= .p _ _) rfl rfl
      | exact Loc.extract (v:= .d _) rfl rfl rfl rfl
      | exact Loc.extract (v:= .g _) rfl rfl rfl rfl
      | exact Loc.pickT (v:= .g _) rfl rfl rfl
      | exact Loc.pickF (v:= .g _) rfl rfl rfl
      | exact Loc.move (v:= .un) rfl rfl
      | exact Loc.build rfl rfl rfl rfl
      | exact Loc.litP rfl rfl rfl rfl rfl rfl rfl)
    | refine Chain.nil0 (hK _ ?_)
    | ((first | apply Chain.st | apply Chain.stD);exact rfl;exact rfl;(first
      | exact Do.storeP rfl rfl rfl rfl .g rfl rfl rfl
      | exact Do.storeP rfl rfl rfl rfl .d rfl rfl rfl
      | exact Do.storeP rfl rfl rfl rfl (.r rfl) rfl rfl rfl);exact rfl;exact rfl)
    | ((first | apply Chain.ef | apply Chain.efD);exact rfl;exact rfl;(first
      | exact Do.alloc rfl rfl rfl
      | exact Do.box rfl rfl rfl .g rfl
      | exact Do.box rfl rfl rfl .d rfl
      | exact Do.lit0 rfl rfl
      | exact Do.append1 rfl rfl rfl rfl rfl rfl (by first | omega | (simp;omega))
      | exact Do.appendN1 rfl rfl rfl rfl rfl rfl);exact rfl;exact rfl)
    | refine Chain.nilD (by rw[hms];kernel_rfl) (hK _ ?_)
    | refine Chain.noN rfl rfl ?_))
  refine AC.rowVar 2 7 119 3 rfl rfl ?_;refine wk ?_;exact⟨2,7,0,rfl,rfl,rfl⟩
 ·refine wk ?_;((try (first | intro K ms hms hK | intro K hK));(first | apply Chain.ef | apply Chain.efD);exact rfl;exact rfl;exact Do.append rfl rfl rfl rfl rfl hk (by simp;omega);exact rfl;exact rfl);refine wk ?_;exact⟨2,5,1,rfl,rfl,rfl⟩
def valsP(ats:List At)(p:List Rat):List Bool:=ats.map fun a=>sayB a.op (a.e.c+evalT p a.e.t)
def bdAtP(k n:Nat)(a:At):Prop:=Bd k a.e.c∧(∀t∈a.e.t,Bd k t.2)∧a.e.t.length≤n
theorem pChk_0{e i o:Int}{box:List (Rat×Rat)}{ats:List At}(h:pChkE e box ats i o=0):e=0∧ats.length≤200∧∀ a∈ats,okOp a.op:=by
 unfold pChkE at h;split at h
 ·omega
 ·rename_i h1;split at h
  ·omega
  ·rename_i h2;split at h
   ·split at h
    ·rename_i h3;refine⟨?_,?_,fun a ha=>?_⟩
     ·rcases Decidable.em (e=0)with g | g
      ·exact g
      ·exact absurd (.inl g) h2
     ·rcases Nat.lt_or_ge 200 ats.length with g | g
      ·exact absurd (.inl g) h1
      ·exact g
     ·have:=List.all_eq_true.1 h3 a ha;unfold okTm at this;rw[Bool.and_eq_true]at this;have h4:=this.1;unfold okOp;simp at h4;omega
    ·omega
   ·omega
theorem set_rep:∀ (vs:List Bool) (m:Nat) (b:Bool),(vs++List.replicate (m+1) false).set vs.length b=vs++[b]++List.replicate m false
 | [],_,_=>rfl
 | v::vs,m,b=>congrArg (v:: ·) (set_rep vs m b)
theorem violF{k n:Nat}(p:PP)(x y:List Rat)(hp:bdPP k p)(hk0:0<k)(hk:k≤25000000)(hlp:lenPP p)(hok:okT p.bad)(hx:∀ q∈x,Bd k q)(hy:∀ q∈y,Bd k q)(hl:x.length+y.length≤1000)(ha:∀ a∈p.ats,bdAtP k n a)(hkn:(n+2)*(2*k+1)≤50000000)(h0:pChkE (chkT p.bad p.ats.length) p.box p.ats x.length y.length=0):Fn Tryz.prog 35 [.g (enPP p),.d (.l (x.map enR)),.d (.l (y.map enR))] [.d (.v (.bool (evT p.bad (valsP p.ats (x++y))&&insL p.box x))),.d (.v (.int .i64 0))]:=by
 have hc:=propCheck p x.length y.length hp hk hlp hok;obtain⟨e0,hal,hop⟩:=pChk_0 h0;rw[h0]at hc;have hin:=insideF p x hp hx (by omega);have hev:=logEval p.bad (valsP p.ats (x++y)) hok;unfold evR at hev;rw[show (valsP p.ats (x++y)).length=p.ats.length from List.length_map ..,if_pos e0]at hev;have hat:∀ q∈x++y,Bd k q:=fun q hq=>(List.mem_append.1 hq).elim (hx q) (hy q);obtain⟨bx,ats,bad⟩:=p;dsimp only at hin hev ha hal hop;rw[show enPP ⟨bx,ats,bad⟩=[.l (bx.map enSd),.l (ats.map enA)]++enF bad from rfl]at hc hin ⊢;show Fn _ _ _ [.d (.v (.bool (evT bad (valsP ats (x++y))&&insL bx x))),.d (.v (.int .i64 0))];have hmx:(x.map enR).length=x.length:=List.length_map ..;have hmy:(y.map enR).length=y.length:=List.length_map ..;refine Fn.of Tryz.func35 rfl (by kernel_rfl) Tryz.ntmps35 Tryz.results35 rfl fun w0 S0=>?_;refine wk ?_;refine c1 hc ?_;refine wk ?_;((try (first | intro K ms hms hK | intro K hK));(first | apply Chain.ef | apply Chain.efD);exact rfl;exact rfl;exact Do.makeM (f:=fun b=>[D.v (.bool b)]) false ats.length ats.length rfl rfl rfl rfl rfl rfl (Nat.le_refl _) (by omega);exact rfl;exact rfl);refine wk ?_;((try (first | intro K ms hms hK | intro K hK));(first | apply Chain.ef | apply Chain.efD);exact rfl;exact rfl;exact Do.callRow (cloneRow (xs:=x.map enR) (fun c hc=>by obtain⟨t,_,rfl⟩:=List.mem_map.1 hc;rfl) (by simp;omega)) rfl ⟨.inl rfl,trivial⟩ rfl;exact rfl;exact rfl);refine wk ?_
 ((try (first | intro K ms hms hK | intro K hK));(first | apply Chain.ef | apply Chain.efD);exact rfl;exact rfl;exact Do.append rfl rfl rfl rfl rfl (by intro z hz;obtain⟨q,_,rfl⟩:=List.mem_map.1 hz;rfl) (by simp;omega);exact rfl;exact rfl);refine wk ?_;refine AC.frzVar 10 rfl rfl ?_;rw[show (x.map enR++y.map enR)=(x++y).map enR from by simp];generalize x++y=pt at hat hev ⊢;have hvl:∀ i,(valsP (ats.take i) pt).length=(ats.take i).length:=fun i=>List.length_map ..;refine AC.loop (X:=Nat) (fun i=>⟨[(1,.d (.l (x.map enR))),(3,.p 3 0),(9,.r 27 0),(10,.d (.l (pt.map enR))),(33,.d (.l (ats.map enA))),(34,.d (.v (.int .i64 (ats.length:Int)))),(35,.d (.v (.int .i64 (i:Int))))],[(3,.box 83 (([D.l (bx.map enSd),D.l (ats.map enA)]++enF bad).map .d)),(27,.row 0 4 1 ((valsP (ats.take i) pt++List.replicate (ats.length-i) false).map fun b=>[.v (.bool b)]))]⟩) (fun i=>i≤ats.length) (fun i=>ats.length-i) 0 (Nat.zero_le _) ⟨rfl,rfl,rfl,rfl,rfl,rfl,rfl,trivial⟩ ⟨rfl,rfl,trivial⟩ ?_;intro i hi;dsimp only at hi ⊢;have hvi:=hvl i;rw[List.length_take]at hvi;have hrl:((valsP (ats.take i) pt++List.replicate (ats.length-i) false).map fun b=>[D.v (.bool b)]).length=ats.length:=by simp;omega
 refine wk ?_;refine s1 (fun g1=>?_) (fun g1=>?_)
 ·have hi1:i<ats.length:=by omega
  have hs:ats[i]?=some ats[i]:=List.getElem?_eq_getElem hi1;have hts:valsP (ats.take (i+1)) pt=valsP (ats.take i) pt++[sayB ats[i].op (ats[i].e.c+evalT pt ats[i].e.t)]:=by
   unfold valsP;rw[List.take_succ_eq_append_getElem hi1,List.map_append];rfl
  obtain⟨a1,a2,a3⟩:=ha _ (List.getElem_mem hi1);have ho:=hop _ (List.getElem_mem hi1);generalize ats[i]=a at hs hts a1 a2 a3 ho;have hh:=holdsF a pt k ho a1 a2 hat hk0 (Nat.le_trans (Nat.mul_le_mul_right _ (Nat.add_le_add_right a3 2)) hkn);generalize sayB a.op (a.e.c+evalT pt a.e.t)=v at hh hts;have hset:=set_rep (valsP (ats.take i) pt) (ats.length-(i+1)) v;rw[show ats.length-(i+1)+1=ats.length-i from by omega,show (valsP (ats.take i) pt).length=i from by omega,←hts]at hset;have hget:(valsP (ats.take i) pt++List.replicate (ats.length-i) false)[i]?=some false:=by
   rw[List.getElem?_append_right (by omega),List.getElem?_replicate,if_pos (by omega)]
  refine wk ?_;refine c1 hh ?_;refine wk ?_;((try (first | intro K ms hms hK | intro K hK));(first | apply Chain.st | apply Chain.stD);exact rfl;exact rfl;exact Do.setM v rfl rfl rfl hget rfl rfl rfl rfl rfl rfl;exact rfl;exact rfl);rw[hset];refine wk ?_;exact⟨i+1,hi1,by omega,⟨rfl,rfl,rfl,rfl,rfl,rfl,rfl,trivial⟩,⟨rfl,rfl,trivial⟩⟩
 ·obtain rfl:i=ats.length:=by omega
  rw[List.take_length,Nat.sub_self,List.replicate_zero,List.append_nil];(first | intro K ms hms hK | intro K hK | skip);refine Chain.frzVar 9 rfl rfl ?_;unfold enBo at hev;cases hw:evT bad (valsP ats pt)with
  | false=>
    rw[hw]at hev;refine wk ?_;refine c1 hev ?_;refine wk ?_;rw[hw];exact⟨.d rfl (.inl rfl),.d rfl (.inl rfl),trivial⟩
  | true=>
    rw[hw]at hev;refine wk ?_;refine c1 hev ?_;refine wk ?_;refine c1 hin ?_;refine wk ?_;rw[hw];exact⟨.d rfl (.inl rfl),.d rfl (.inl rfl),trivial⟩
end Go.Proofs.YthdkkpocihkgbaaGreatDoor
namespace Go.Proofs.YthdkkpocihkgbaaGreatDoor
open Go.RowKit
attribute [local irreducible] AC Do St
def valsQ(ats:List At)(p:List Rat):List Bool:=ats.map fun a=>sayB a.op (evQ a.e p p.length)
def bdAt(k n:Nat)(a:At):Prop:=Bd k a.e.c∧(∀t∈a.e.t,Bd k t.2)∧a.e.t.length≤n
theorem viol16{k n:Nat}(p:PP)(x y:List Rat)(hp:bdPP k p)(hx:∀ q∈x,Bd k q)(hy:∀ q∈y,Bd k q)(ha:∀ a∈p.ats,bdAt k n a)(hal:p.ats.length≤200)(hl:x.length+y.length≤1000)(hk:(x.length+y.length+2)*((n+2)*(k+1)+k+1)≤50000000)(hk2:k+k≤50000000)(hok:okT p.bad)(hsh:shT p.bad p.ats.length=true):Fn Tryz.prog 40 [.g (enPQ p),.d (.l (x.map enQ)),.d (.l (y.map enQ))] [.d (.v (.bool (insL p.box x&&evT p.bad (valsQ p.ats (x++y)))))]:=by
 have hin:=inside16 p x hp hx hk2;have hev:=eval11 (valsQ p.ats (x++y)) _ p.bad (Nat.lt_succ_self _) hok (by rw[show (valsQ p.ats (x++y)).length=p.ats.length from List.length_map ..];exact hsh);have hat:∀ q∈x++y,Bd k q:=fun q hq=>(List.mem_append.1 hq).elim (hx q) (hy q);have hap:(x++y).length=x.length+y.length:=List.length_append;obtain⟨bx,ats,bad⟩:=p;dsimp only at hin hev ha hal;rw[show enPQ ⟨bx,ats,bad⟩=[.l (bx.map enSdQ),.l (ats.map enAQ)]++enF bad from rfl]at hin ⊢;show Fn _ _ _ [.d (.v (.bool (insL bx x&&evT bad (valsQ ats (x++y)))))];have hmx:(x.map enQ).length=x.length:=List.length_map ..;have hmy:(y.map enQ).length=y.length:=List.length_map ..;refine Fn.of Tryz.func40 rfl (by kernel_rfl) Tryz.ntmps40 Tryz.results40 rfl fun w0 S0=>?_;refine wk ?_;((try (first | intro K ms hms hK | intro K hK));(first | apply Chain.ef | apply Chain.efD);exact rfl;exact rfl;exact Do.append rfl rfl rfl rfl rfl (by intro z hz;obtain⟨q,_,rfl⟩:=List.mem_map.1 hz;rfl) (by simp;omega);exact rfl;exact rfl);refine wk ?_;((try (first | intro K ms hms hK | intro K hK));(first | apply Chain.ef | apply Chain.efD);exact rfl;exact rfl;exact Do.append rfl rfl rfl rfl rfl (by intro z hz;obtain⟨q,_,rfl⟩:=List.mem_map.1 hz;rfl) (by simp;omega);exact rfl;exact rfl);refine wk ?_;refine AC.frzVar 7 rfl rfl ?_;rw[show ([]++x.map enQ++y.map enQ)=(x++y).map enQ from by simp];generalize x++y=p at hat hap hev ⊢
 have hvl:∀ i,((valsQ (ats.take i) p).map fun b=>[D.v (.bool b)]).length=(ats.take i).length:=fun i=>by unfold valsQ;simp
 refine AC.loop (X:=Nat) (fun i=>⟨[(1,.d (.l (x.map enQ))),(3,.p 3 0),(7,.d (.l (p.map enQ))),(8,.r 18 i),(20,.d (.l (ats.map enAQ))),(21,.d (.v (.int .i64 (ats.length:Int)))),(22,.d (.v (.int .i64 (i:Int))))],[(3,.box 92 (([D.l (bx.map enSdQ),D.l (ats.map enAQ)]++enF bad).map .d)),(18,.row i 4 1 ((valsQ (ats.take i) p).map fun b=>[.v (.bool b)]))]⟩) (fun i=>i≤ats.length) (fun i=>ats.length-i) 0 (Nat.zero_le _) ⟨rfl,rfl,rfl,rfl,rfl,rfl,rfl,trivial⟩ ⟨rfl,rfl,trivial⟩ ?_;intro i hi;dsimp only at hi ⊢;have hvi:=hvl i;rw[List.length_take]at hvi;refine wk ?_;refine s1 (fun g1=>?_) (fun g1=>?_)
 ·have hi1:i<ats.length:=by omega
  have hs:ats[i]?=some ats[i]:=List.getElem?_eq_getElem hi1;have hts:(valsQ (ats.take (i+1)) p).map (fun b=>[D.v (.bool b)])=(valsQ (ats.take i) p).map (fun b=>[D.v (.bool b)])++[[.v (.bool (sayB ats[i].op (evQ ats[i].e p p.length)))]]:=by
   unfold valsQ;rw[List.take_succ_eq_append_getElem hi1,List.map_append,List.map_append];rfl
  obtain⟨a1,a2,a3⟩:=ha _ (List.getElem_mem hi1);generalize ats[i]=a at hs hts a1 a2 a3;have he:=evalQ a.e p k a1 a2 hat (by
   rw[hap];refine Nat.le_trans (Nat.mul_le_mul_left _ ?_) hk;have:=Nat.mul_le_mul_right (k+1) (Nat.add_le_add_right a3 2);omega)
  have hsy:=saysQ a.op (evQ a.e p p.length);refine wk ?_;refine c1 he ?_;refine wk ?_;refine c1 hsy ?_;refine wk ?_;exact⟨i+1,hi1,by omega,⟨rfl,rfl,rfl,rfl,rfl,rfl,rfl,trivial⟩,⟨rfl,by dsimp only;rw[hts];rfl,trivial⟩⟩
 ·obtain rfl:i=ats.length:=by omega
  rw[List.take_length];(first | intro K ms hms hK | intro K hK | skip);refine Chain.frzVar 8 rfl rfl ?_;cases hv:insL bx x with
  | false=>
    rw[hv]at hin;refine wk ?_;refine c1 hin ?_;refine wk ?_;rw[hv];exact⟨.d rfl (.inl rfl),trivial⟩
  | true=>
    rw[hv]at hin;unfold enBo at hev;refine wk ?_;refine c1 hin ?_;refine wk ?_;refine c1 hev ?_;refine wk ?_;rw[hv];exact⟨.d rfl (.inl rfl),trivial⟩
end Go.Proofs.YthdkkpocihkgbaaGreatDoor
namespace Go.Proofs.YthdkkpocihkgbaaGreatDoor
open Go.RowKit
attribute [local irreducible] AC Do St
mutual
def noT:FT→Int→Int
 | .mk _ _ s,m=>noTs s m 1
def noTs:List FT→Int→Int→Int
 | [],_,n=>n
 | f::r,m,n=>if m<n then n else noTs r m (n+noT f (m-n))
end
mutual
theorem noT_rng:∀ (f:FT) (m:Int),0≤m→1≤noT f m∧noT f m≤m+1
 | .mk _ _ s,m,h=>by
   rw[noT];exact noTs_rng s m 1 h (by omega) (by omega)
theorem noTs_rng:∀ (s:List FT) (m n:Int),0≤m→1≤n→n≤m+1→1≤noTs s m n∧noTs s m n≤m+1
 | [],m,n,h0,h1,h2=>by rw[noTs];omega
 | f::r,m,n,h0,h1,h2=>by
   rw[noTs];split
   ·omega
   ·have:=noT_rng f (m-n) (by omega);exact noTs_rng r m _ h0 (by omega) (by omega)
end
theorem nodesT:∀ (k:Nat) (f:FT),szT f<k→okT f→∀ (m:Int),0≤m→m≤100000→Fn Tryz.prog 82 [.g (enF f),.d (.v (.int .i64 m))] [.d (.v (.int .i64 (noT f m)))]:=by
 intro k
 induction k with
 | zero=>intro f h;omega
 | succ k ih=>
 intro f hm hok m h0 h1;obtain⟨kd,a,s⟩:=f;obtain⟨hsl,hsg⟩:=okT_mk hok;have hsub:∀ g∈s,szT g<k:=fun g hg=>by have:=FT.lt (k:=kd) (a:=a) hg;omega
 rw[enF_mk];rw[noT];obtain⟨R,hR⟩:∃ R,noTs s m 1=R:=⟨_,rfl⟩
 rw[hR];refine Fn.of Tryz.func82 rfl (by kernel_rfl) Tryz.ntmps82 Tryz.results82 rfl fun w0 S0=>?_;refine wk ?_;refine AC.loop (X:=Nat×Int) (fun x=>⟨[(1,.d (.v (.int .i64 m))),(5,.d (.v (.int .i64 x.2))),(9,.d (.l (s.map enF))),(10,.d (.v (.int .i64 (s.length:Int)))),(11,.d (.v (.int .i64 (x.1:Int))))],[]⟩) (fun x=>x.1≤s.length∧1≤x.2∧x.2≤m+1∧noTs (s.drop x.1) m x.2=R) (fun x=>s.length-x.1) (0,1) ⟨Nat.zero_le _,by decide,by dsimp only;omega,hR⟩ ⟨rfl,rfl,rfl,rfl,rfl,trivial⟩ trivial ?_;intro ⟨i,c⟩ ⟨hi,hc0,hc1,hgo⟩;dsimp only at hi hc0 hc1 hgo ⊢;refine wk ?_;refine s1 (fun g1=>?_) (fun g1=>?_)
 ·have hi1:i<s.length:=by omega
  have hx:s[i]?=some s[i]:=List.getElem?_eq_getElem hi1;rw[List.drop_eq_getElem_cons hi1,noTs]at hgo;have hs:=hsub _ (List.getElem_mem hi1);have ho:=hsg _ (List.getElem_mem hi1);generalize s[i]=g at hx hs ho hgo;refine wk ?_;refine s1 (fun g2=>?_) (fun g2=>?_)
  ·rw[if_pos g2]at hgo;subst hgo;refine wk ?_;exact⟨.d rfl (.inl rfl),trivial⟩
  ·rw[if_neg g2]at hgo;have hf:=ih g hs ho (m-c) (by omega) (by omega);have hb:=noT_rng g (m-c) (by omega);generalize noT g (m-c)=v at hf hb hgo;refine wk ?_;refine c1 hf ?_;refine wk ?_;exact⟨(i+1,c+v),⟨hi1,by dsimp only;omega,by dsimp only;omega,hgo⟩,by dsimp only;omega,⟨rfl,rfl,rfl,rfl,rfl,trivial⟩,trivial⟩
 ·rw[List.drop_of_length_le (by omega),noTs]at hgo;subst hgo;refine wk ?_;exact⟨.d rfl (.inl rfl),trivial⟩
end Go.Proofs.YthdkkpocihkgbaaGreatDoor
