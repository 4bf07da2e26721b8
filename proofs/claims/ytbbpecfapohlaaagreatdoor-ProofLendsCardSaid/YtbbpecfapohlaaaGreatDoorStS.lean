import Derived.Test.YtbbpecfapohlaaaGreatDoorK3
import Derived.Test.YtbbpecfapohlaaaGreatDoorZ0
import Derived.Test.YtbbpecfapohlaaaGreatDoorLawE
set_option maxRecDepth 100000
set_option maxHeartbeats 4000000
namespace Go.Proofs.YtbbpecfapohlaaaGreatDoor
open Go.RowKit
attribute [local irreducible] AC Do St
structure Stp where
 rule:Int
 cl:List Int
 idx:Int
 pr:List Int
 tm:List Rat
def enS(s:Stp):List D:=[.v (.int .i64 s.rule),enZ s.cl,.v (.int .i64 s.idx),enZ s.pr,.l (s.tm.map enR)]
def enSQ(s:Stp):List D:=[.v (.int .i64 s.rule),enZ s.cl,.v (.int .i64 s.idx),enZ s.pr,.l (s.tm.map enQ)]
structure SN where
 rule:Int
 cl:List Int
 idx:Int
 pr:List Int
 tm:List (Bool×List Nat×List Nat)
def enSN(s:SN):List D:=[.v (.int .i64 s.rule),enZ s.cl,.v (.int .i64 s.idx),enZ s.pr,.l (s.tm.map enN)]
def okSN(s:SN):Prop:=okP s.tm∧s.cl.length≤9223372036854775807∧s.pr.length≤9223372036854775807∧s.tm.length≤9223372036854775807
def stS(s:SN):Stp:=⟨s.rule,s.cl.take 40,s.idx,s.pr.take 40,(s.tm.take 40).map nQ⟩
def stL(l:List SN):List Stp:=(l.take 60).map stS
theorem intsF(l:List Int):Fn Tryz.prog 64 [.d (enZ l)] [.d (enZ (l.take 40))]:=by
 refine Fn.of Tryz.func64 rfl (by kernel_rfl) Tryz.ntmps64 Tryz.results64 rfl fun w0 S0=>?_;refine wk ?_;have hone:∀ (m:List Int),∀c∈m.map (fun v=>[D.v (.int .i64 v)]),c.length=1:=fun m c hc=>by
  obtain⟨v,_,rfl⟩:=List.mem_map.1 hc;rfl
 refine s1 (fun h1=>?_) (fun h1=>?_)
 ·refine wk ?_;((try (first | intro K ms hms hK | intro K hK));(first | apply Chain.go | apply Chain.goD);exact rfl;exact rfl;exact Loc.partM 40 rfl rfl rfl rfl (by omega));refine wk ?_;((try (first | intro K ms hms hK | intro K hK));(first | apply Chain.ef | apply Chain.efD);exact rfl;exact rfl;exact Do.append rfl rfl rfl rfl rfl (hone _) (by simp;omega);exact rfl;exact rfl);refine wk ?_;exact⟨.d rfl ⟨_,_,rfl⟩,trivial⟩
 ·have e:l.take 40=l:=List.take_of_length_le (by omega);refine wk ?_;((try (first | intro K ms hms hK | intro K hK));(first | apply Chain.ef | apply Chain.efD);exact rfl;exact rfl;exact Do.append rfl rfl rfl rfl rfl (hone _) (by simp;omega);exact rfl;exact rfl);refine wk ?_;rw[e];exact⟨.d rfl ⟨_,_,rfl⟩,trivial⟩
end Go.Proofs.YtbbpecfapohlaaaGreatDoor
namespace Go.Proofs.YtbbpecfapohlaaaGreatDoor
open Go.RowKit
attribute [local irreducible] AC Do St
theorem stS_tm(s:SN):(stS s).tm=(s.tm.take 40).map nQ:=rfl
theorem of22(l:List SN)(hl:∀ s∈l,okSN s):Fn Tryz.prog 18 [.d (.l (l.map enSN))] [.d (.l ((stL l).map enS))]:=by
 refine Fn.of Tryz.func18 rfl (by kernel_rfl) Tryz.ntmps18 Tryz.results18 rfl fun w0 S0=>?_;refine wk ?_;refine AC.loop (X:=Nat) (fun i=>⟨[(0,.d (.l (l.map enSN))),(3,.r 7 i),(4,.d (.v (.int .i64 (i:Int))))],[(7,.row i 57 5 (((l.take i).map stS).map enS))]⟩) (fun i=>i≤l.length∧i≤60) (fun i=>60-i) 0 ⟨Nat.zero_le _,Nat.zero_le _⟩ ⟨rfl,rfl,rfl,trivial⟩ ⟨rfl,trivial⟩ ?_;intro i ⟨hi,hi6⟩;have hend:(i=l.length∨i=60)→(l.take i).map stS=stL l:=fun h=>by
  show _=(l.take 60).map stS;rcases h with h | h
  ·rw[h,List.take_of_length_le (Nat.le_refl _),List.take_of_length_le (by omega)]
  ·rw[h]
 refine wk ?_;refine s1 (fun h1=>?_) (fun h1=>?_)
 ·have hi':i<l.length:=by omega
  have hget:l[i]?=some l[i]:=List.getElem?_eq_getElem hi';have hok:=hl l[i] (List.getElem_mem hi');have hts:((l.take (i+1)).map stS).map enS=((l.take i).map stS).map enS++[enS (stS l[i])]:=by
   rw[List.take_succ_eq_append_getElem hi',List.map_append,List.map_append];rfl
  generalize l[i]=s at hget hok hts;obtain⟨hok1,hok2,hok3,hok4⟩:=hok;refine wk ?_;refine s1 (fun h2=>?_) (fun h2=>?_)
  ·refine wk ?_;refine c1 (intsF s.cl) ?_;refine wk ?_;refine c1 (intsF s.pr) ?_;refine wk ?_;refine AC.rowBox 5 4 67 104 3 rfl rfl rfl ?_;refine AC.loop (X:=Nat) (fun j=>⟨[(0,.d (.l (l.map enSN))),(3,.r 7 i),(4,.d (.v (.int .i64 (i:Int)))),(5,.p 5 0),(6,.d (.v (.int .i64 (j:Int))))],[(7,.row i 57 5 (((l.take i).map stS).map enS)),(5,.box 57 [.d (.v (.int .i64 s.rule)),.d (enZ (s.cl.take 40)),.d (.v (.int .i64 s.idx)),.d (enZ (s.pr.take 40)),.r 67 j]),(67,.row j 104 3 (((s.tm.take j).map nQ).map enR))]⟩) (fun j=>j≤s.tm.length∧j≤40) (fun j=>40-j) 0 ⟨Nat.zero_le _,Nat.zero_le _⟩ ⟨rfl,rfl,rfl,rfl,rfl,trivial⟩ ⟨rfl,rfl,rfl,trivial⟩ ?_;intro j ⟨hj,hj4⟩;have hendj:(j=s.tm.length∨j=40)→(s.tm.take j).map nQ=(stS s).tm:=fun h=>by
    rw[stS_tm];rcases h with h | h
    ·rw[h,List.take_of_length_le (Nat.le_refl _),List.take_of_length_le (by omega)]
    ·rw[h]
   refine wk ?_;refine s1 (fun h3=>?_) (fun h3=>?_)
   ·have hj':j<s.tm.length:=by omega
    have hget2:s.tm[j]?=some s.tm[j]:=List.getElem?_eq_getElem hj';have hokn:=hok1 s.tm[j] (List.getElem_mem hj');have htsj:((s.tm.take (j+1)).map nQ).map enR=((s.tm.take j).map nQ).map enR++[enR (nQ s.tm[j])]:=by
     rw[List.take_succ_eq_append_getElem hj',List.map_append,List.map_append];rfl
    generalize s.tm[j]=n at hget2 hokn htsj;refine wk ?_;refine s1 (fun h4=>?_) (fun h4=>?_)
    ·refine wk ?_;refine c1 (ofN n hokn) ?_;refine wk ?_;refine⟨j+1,⟨by omega,by omega⟩,by omega,⟨rfl,rfl,rfl,rfl,rfl,trivial⟩,⟨rfl,rfl,by rw[htsj];rfl,trivial⟩⟩
    ·have henS:[D.v (.int .i64 s.rule),enZ (s.cl.take 40),.v (.int .i64 s.idx),enZ (s.pr.take 40),.l (((s.tm.take j).map nQ).map enR)]=enS (stS s):=by rw[hendj (by omega)];rfl
     refine wk ?_;(first | intro K ms hms hK | intro K hK);refine Chain.frzBox 5 4 rfl rfl rfl ?_;refine wk ?_;refine⟨i+1,⟨by omega,by omega⟩,by omega,⟨rfl,rfl,rfl,trivial⟩,⟨by rw[hts,←henS];rfl,trivial⟩⟩
   ·have henS:[D.v (.int .i64 s.rule),enZ (s.cl.take 40),.v (.int .i64 s.idx),enZ (s.pr.take 40),.l (((s.tm.take j).map nQ).map enR)]=enS (stS s):=by rw[hendj (by omega)];rfl
    refine wk ?_;(first | intro K ms hms hK | intro K hK);refine Chain.frzBox 5 4 rfl rfl rfl ?_;refine wk ?_;refine⟨i+1,⟨by omega,by omega⟩,by omega,⟨rfl,rfl,rfl,trivial⟩,⟨by rw[hts,←henS];rfl,trivial⟩⟩
  ·refine wk ?_;rw[hend (by omega)];exact⟨.d rfl ⟨_,_,rfl⟩,trivial⟩
 ·refine wk ?_;rw[hend (by omega)];exact⟨.d rfl ⟨_,_,rfl⟩,trivial⟩
def SmS(s:Stp):Prop:=(∀t∈s.tm,Bd 256 t)∧s.tm.length≤1000∧s.cl.length≤1000000∧s.pr.length≤1000000
theorem stL_sm{l:List SN}(hl:∀ s∈l,okSN s):∀ s∈stL l,SmS s:=fun s hs=>by
 obtain⟨n,hn,rfl⟩:=List.mem_map.1 hs;have hok:=hl n (List.mem_of_mem_take hn);refine⟨fun t ht=>?_,?_,?_,?_⟩
 ·obtain⟨x,hx,rfl⟩:=List.mem_map.1 ht;exact bdN x (hok.1 x (List.mem_of_mem_take hx))
 ·rw[stS_tm];simp;omega
 ·show (n.cl.take 40).length≤_;simp;omega
 ·show (n.pr.take 40).length≤_;simp;omega
theorem stL_len(l:List SN):(stL l).length≤60:=by unfold stL;simp;omega
end Go.Proofs.YtbbpecfapohlaaaGreatDoor
namespace Go.Proofs.YtbbpecfapohlaaaGreatDoor
open Go.RowKit
attribute [local irreducible] AC Do St
def SmK(k:Nat)(s:Stp):Prop:=(∀t∈s.tm,Bd k t)∧s.tm.length≤1000000∧s.cl.length≤1000000∧s.pr.length≤1000000
theorem SmS.k{s:Stp}(h:SmS s):SmK 256 s:=⟨h.1,by have:=h.2.1;omega,h.2.2⟩
theorem told22k{k:Nat}(hk:k≤10000000)(l:List Stp)(hl:∀ s∈l,SmK k s)(hlen:l.length≤1000000):Fn Tryz.prog 22 [.d (.l (l.map enS))] [.d (.l (l.map enSQ))]:=by
 refine Fn.of Tryz.func22 rfl (by kernel_rfl) Tryz.ntmps22 Tryz.results22 rfl fun w0 S0=>?_;refine wk ?_;refine AC.loop (X:=Nat) (fun i=>⟨[(3,.r 6 i),(7,.d (.l (l.map enS))),(8,.d (.v (.int .i64 (l.length:Int)))),(9,.d (.v (.int .i64 (i:Int))))],[(6,.row i 83 5 ((l.take i).map enSQ))]⟩) (fun i=>i≤l.length) (fun i=>l.length-i) 0 (Nat.zero_le _) ⟨rfl,rfl,rfl,rfl,trivial⟩ ⟨rfl,trivial⟩ ?_;intro i hi;refine wk ?_;refine s1 (fun h1=>?_) (fun h1=>?_)
 ·have hi':i<l.length:=by omega
  have hget:l[i]?=some l[i]:=List.getElem?_eq_getElem hi';obtain⟨hs1,hs2,hs3,hs4⟩:=hl l[i] (List.getElem_mem hi');have hts:(l.take (i+1)).map enSQ=(l.take i).map enSQ++[enSQ l[i]]:=by
   rw[List.take_succ_eq_append_getElem hi',List.map_append];rfl
  generalize l[i]=s at hget hts hs1 hs2 hs3 hs4;refine wk ?_;((try (first | intro K ms hms hK | intro K hK));(first | apply Chain.ef | apply Chain.efD);exact rfl;exact rfl;exact Do.appendF rfl rfl rfl rfl rfl (enZ_one s.cl) (by simp;omega);exact rfl;exact rfl);refine wk ?_;((try (first | intro K ms hms hK | intro K hK));(first | apply Chain.ef | apply Chain.efD);exact rfl;exact rfl;exact Do.appendF rfl rfl rfl rfl rfl (enZ_one s.pr) (by simp;omega);exact rfl;exact rfl);refine wk ?_;refine c1 (nums s.tm k hk hs1 (by omega)) ?_;refine wk ?_;refine⟨i+1,by omega,by omega,⟨rfl,rfl,rfl,rfl,trivial⟩,⟨by rw[hts];rfl,trivial⟩⟩
 ·refine wk ?_;rw[List.take_of_length_le (by omega)];exact⟨.d rfl ⟨_,_,rfl⟩,trivial⟩
theorem sgnK0{q:Rat}:sgnR q=0↔q=0:=by
 unfold sgnR;constructor
 ·intro h;split at h
  ·omega
  ·split at h
   ·rename_i h2;exact Rat.num_eq_zero.1 h2
   ·omega
 ·intro h;subst h;rfl
theorem sgnK_eq{p q:Rat}:sgnR (p-q)=0↔p=q:=by
 have h:sgnR (p-q)=0↔p-q=0:=sgnK0;rw[h];constructor
 ·intro h;have:p-q+q=0+q:=by rw[h]
  rwa[Rat.sub_add_cancel,Rat.zero_add]at this
 ·rintro rfl;exact Rat.sub_self
theorem ratsK{k:Nat}(hk:k≤10000000)(a b:List Rat)(ha:a.length≤1000000000)(h1:∀ q∈a,Bd k q)(h2:∀ q∈b,Bd k q):Fn Tryz.prog 31 [.d (.l (a.map enQ)),.d (.l (b.map enQ))] [.d (.v (.bool (decide (a=b))))]:=by
 refine Fn.of Tryz.func31 rfl (by kernel_rfl) Tryz.ntmps31 Tryz.results31 rfl fun w0 S0=>?_;refine wk ?_;refine s1 (fun h3=>?_) (fun h3=>?_)
 ·have:¬ a=b:=fun h=>h3 (by rw[h]);refine wk ?_;rw[decide_eq_false this];exact⟨.d rfl (.inl rfl),trivial⟩
 ·have hl:a.length=b.length:=by omega
  refine wk ?_;refine AC.loop (X:=Nat) (fun i=>⟨[(0,.d (.l (a.map enQ))),(1,.d (.l (b.map enQ))),(12,.d (.v (.int .i64 (a.length:Int)))),(13,.d (.v (.int .i64 (i:Int))))],[]⟩) (fun i=>i≤a.length∧a.take i=b.take i) (fun i=>a.length-i) 0 ⟨Nat.zero_le _,rfl⟩ ⟨rfl,rfl,rfl,rfl,trivial⟩ trivial ?_;intro i ⟨hi,heq⟩;refine wk ?_;refine s1 (fun h4=>?_) (fun h4=>?_)
  ·have hi':i<a.length:=by omega
   have hi2:i<b.length:=by omega
   have hga:a[i]?=some a[i]:=List.getElem?_eq_getElem hi';have hgb:b[i]?=some b[i]:=List.getElem?_eq_getElem hi2;have hba:=h1 _ (List.getElem_mem hi');have hbb:=h2 _ (List.getElem_mem hi2);have hs:a[i]=b[i]→a.take (i+1)=b.take (i+1):=fun h=>by rw[List.take_succ_eq_append_getElem hi',List.take_succ_eq_append_getElem hi2,heq,h]
   have hn:¬ a[i]=b[i]→¬ a=b:=fun h h2=>h (by subst h2;rfl);generalize a[i]=x at hga hs hn hba;generalize b[i]=y at hgb hs hn hbb;have hsg:sgnR (x-y)=0↔x=y:=sgnK_eq;have hcm:=qCmp hba hbb (by omega);generalize sgnR (x-y)=sg at hsg hcm;refine wk ?_;refine c1 hcm ?_;refine s1 (fun h5=>?_) (fun h5=>?_)
   ·refine wk ?_;rw[decide_eq_false (hn fun h=>h5 (hsg.2 h))];exact⟨.d rfl (.inl rfl),trivial⟩
   ·refine wk ?_;exact⟨i+1,⟨by omega,hs (hsg.1 (Classical.byContradiction h5))⟩,by omega,⟨rfl,rfl,rfl,rfl,trivial⟩,trivial⟩
  ·rw[List.take_of_length_le (by omega),List.take_of_length_le (by omega)]at heq;refine wk ?_;rw[decide_eq_true heq];exact⟨.d rfl (.inl rfl),trivial⟩
end Go.Proofs.YtbbpecfapohlaaaGreatDoor
namespace Go.Proofs.YtbbpecfapohlaaaGreatDoor
open Go.RowKit
attribute [local irreducible] AC Do St
end Go.Proofs.YtbbpecfapohlaaaGreatDoor
