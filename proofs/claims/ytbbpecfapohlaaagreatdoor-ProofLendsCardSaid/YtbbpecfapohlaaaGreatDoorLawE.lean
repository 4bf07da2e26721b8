import Derived.Test.YtbbpecfapohlaaaGreatDoorBr
import Derived.Test.YtbbpecfapohlaaaGreatDoorTy
import Derived.Test.YtbbpecfapohlaaaGreatDoorP1
set_option maxRecDepth 100000
set_option maxHeartbeats 1000000
namespace Go.Proofs.YtbbpecfapohlaaaGreatDoor
open Go.RowKit
attribute [local irreducible] AC Do St
def enN(n:Bool×List Nat×List Nat):List D:=[.v (.bool n.1),enL n.2.1,enL n.2.2]
def okN(n:Bool×List Nat×List Nat):Prop:=(∀x∈n.2.1,x<4294967296)∧(∀x∈n.2.2,x<4294967296)
def nQ(n:Bool×List Nat×List Nat):Rat:=numQ n.1 n.2.1 n.2.2
theorem bits_8{l:List Nat}(h:∀ y∈l,y<4294967296)(hl:l.length≤8):(bits (dval 4294967296 l)).length≤100000000:=by
 have h1:dval 4294967296 l<4294967296^l.length:=dval_lt h;have h2:4294967296^l.length≤4294967296^8:=Nat.pow_le_pow_right (by decide) hl;have h3:(4294967296:Nat)^8=2^256:=by decide
 have:=bits_len_le (k:=256) (show dval 4294967296 l<2^256 by omega);omega
theorem both(n:Bool×List Nat×List Nat)(hn:okN n):Fn Tryz.prog 123 [.g (enN n)] [.g (enR (nQ n)),.g (enQ (nQ n))]:=by
 obtain⟨nb,x,d⟩:=n;obtain⟨hx,hd⟩:=hn;simp only at hx hd;have hx8:∀ y∈x.take 8,y<4294967296:=fun y hy=>hx y (List.mem_of_mem_take hy);have hd8:∀ y∈d.take 8,y<4294967296:=fun y hy=>hd y (List.mem_of_mem_take hy);have lx:(x.take 8).length≤8:=by simp;omega
 have ld:(d.take 8).length≤8:=by simp;omega
 have bx:(bits (dval 4294967296 (x.take 8))).length≤100000000:=bits_8 hx8 lx;refine Fn.of Tryz.func123 rfl (by kernel_rfl) Tryz.ntmps123 Tryz.results123 rfl fun w0 S0=>?_;refine wk ?_;(first | intro K ms hms hK | intro K hK);((first | apply Chain.go | apply Chain.goD);exact rfl;exact rfl;refine Loc.callD (few x) rfl ?_;(repeat (first | exact trivial | refine⟨.inl rfl,?_⟩ | refine⟨.inr rfl,?_⟩)));refine wk ?_;((first | apply Chain.go | apply Chain.goD);exact rfl;exact rfl;refine Loc.callD (few d) rfl ?_;(repeat (first | exact trivial | refine⟨.inl rfl,?_⟩ | refine⟨.inr rfl,?_⟩)));refine wk ?_;(first | intro K ms hms hK | intro K hK);((first | apply Chain.go | apply Chain.goD);exact rfl;exact rfl;refine Loc.callD (bitsOf (d.take 8) (by omega) hd8) rfl ?_;(repeat (first | exact trivial | refine⟨.inl rfl,?_⟩ | refine⟨.inr rfl,?_⟩)));refine wk ?_;have h0:dval 4294967296 (d.take 8)=0∨dval 4294967296 (d.take 8)≠0:=by omega
 rcases h0 with h0 | h0
 ·have hb:barL d=[1]:=by unfold barL;rw[if_pos h0]
  have hl:(bits (dval 4294967296 (d.take 8))).length=0:=by rw[h0,bits_eq_nil.2 rfl];rfl
  have hq:nQ (nb,x,d)=mkRat (sgn nb (dval 4294967296 (x.take 8))) (dval 4294967296 [1]):=by unfold nQ numQ;rw[hb]
  refine wk ?_;(first | intro K ms hms hK | intro K hK);((first | apply Chain.go | apply Chain.goD);exact rfl;exact rfl;refine Loc.callD (copyU (x.take 8) (by omega)) rfl ?_;(repeat (first | exact trivial | refine⟨.inl rfl,?_⟩ | refine⟨.inr rfl,?_⟩)));refine wk ?_;((first | apply Chain.go | apply Chain.goD);exact rfl;exact rfl;refine Loc.callD (copyU [1] (by simp)) rfl ?_;(repeat (first | exact trivial | refine⟨.inl rfl,?_⟩ | refine⟨.inr rfl,?_⟩)));refine wk ?_;((first | apply Chain.go | apply Chain.goD);exact rfl;exact rfl;refine Loc.callT (ratMake nb (x.take 8) [1] (by omega) (by simp) (by decide) hx8 (by simp)) rfl ?_;(repeat (first | exact trivial | refine⟨.inl rfl,?_⟩ | refine⟨.inr rfl,?_⟩)));refine wk ?_;(first | intro K ms hms hK | intro K hK);((first | apply Chain.go | apply Chain.goD);exact rfl;exact rfl;refine Loc.callD (bitsOf (x.take 8) (by omega) hx8) rfl ?_;(repeat (first | exact trivial | refine⟨.inl rfl,?_⟩ | refine⟨.inr rfl,?_⟩)));refine wk ?_;((first | apply Chain.go | apply Chain.goD);exact rfl;exact rfl;refine Loc.callD (bitsOf [1] (by simp) (by simp)) rfl ?_;(repeat (first | exact trivial | refine⟨.inl rfl,?_⟩ | refine⟨.inr rfl,?_⟩)));refine wk ?_;((first | apply Chain.go | apply Chain.goD);exact rfl;exact rfl;refine Loc.callG (qOf nb (dval 4294967296 (x.take 8)) (dval 4294967296 [1]) bx (bits_8 (by simp) (by simp)) (by decide)) rfl ?_;(repeat (first | exact trivial | refine⟨.inl rfl,?_⟩ | refine⟨.inr rfl,?_⟩)));refine wk ?_;rw[hq]
  exact⟨.cn rfl rfl inferInstance rfl ⟨.inl rfl,.inl rfl,.inl rfl,trivial⟩,.cn rfl rfl inferInstance rfl ⟨.inl rfl,.inl rfl,.inl rfl,trivial⟩,trivial⟩
 ·have hb:barL d=d.take 8:=by unfold barL;rw[if_neg h0]
  have hl:0<(bits (dval 4294967296 (d.take 8))).length:=List.length_pos_iff.2 (fun e=>h0 (bits_eq_nil.1 e));have hq:nQ (nb,x,d)=mkRat (sgn nb (dval 4294967296 (x.take 8))) (dval 4294967296 (d.take 8)):=by unfold nQ numQ;rw[hb]
  refine wk ?_;(first | intro K ms hms hK | intro K hK);((first | apply Chain.go | apply Chain.goD);exact rfl;exact rfl;refine Loc.callD (copyU (x.take 8) (by omega)) rfl ?_;(repeat (first | exact trivial | refine⟨.inl rfl,?_⟩ | refine⟨.inr rfl,?_⟩)));refine wk ?_;((first | apply Chain.go | apply Chain.goD);exact rfl;exact rfl;refine Loc.callD (copyU (d.take 8) (by omega)) rfl ?_;(repeat (first | exact trivial | refine⟨.inl rfl,?_⟩ | refine⟨.inr rfl,?_⟩)));refine wk ?_;((first | apply Chain.go | apply Chain.goD);exact rfl;exact rfl;refine Loc.callT (ratMake nb (x.take 8) (d.take 8) (by omega) (by omega) (by omega) hx8 hd8) rfl ?_;(repeat (first | exact trivial | refine⟨.inl rfl,?_⟩ | refine⟨.inr rfl,?_⟩)));refine wk ?_;(first | intro K ms hms hK | intro K hK);((first | apply Chain.go | apply Chain.goD);exact rfl;exact rfl;refine Loc.callD (bitsOf (x.take 8) (by omega) hx8) rfl ?_;(repeat (first | exact trivial | refine⟨.inl rfl,?_⟩ | refine⟨.inr rfl,?_⟩)));refine wk ?_;((first | apply Chain.go | apply Chain.goD);exact rfl;exact rfl;refine Loc.callD (bitsOf (d.take 8) (by omega) hd8) rfl ?_;(repeat (first | exact trivial | refine⟨.inl rfl,?_⟩ | refine⟨.inr rfl,?_⟩)));refine wk ?_;((first | apply Chain.go | apply Chain.goD);exact rfl;exact rfl;refine Loc.callG (qOf nb (dval 4294967296 (x.take 8)) (dval 4294967296 (d.take 8)) bx (bits_8 hd8 (by omega)) (by omega)) rfl ?_;(repeat (first | exact trivial | refine⟨.inl rfl,?_⟩ | refine⟨.inr rfl,?_⟩)));refine wk ?_;rw[hq]
  exact⟨.cn rfl rfl inferInstance rfl ⟨.inl rfl,.inl rfl,.inl rfl,trivial⟩,.cn rfl rfl inferInstance rfl ⟨.inl rfl,.inl rfl,.inl rfl,trivial⟩,trivial⟩
end Go.Proofs.YtbbpecfapohlaaaGreatDoor
namespace Go.Proofs.YtbbpecfapohlaaaGreatDoor
open Go.RowKit
attribute [local irreducible] AC Do St
structure Ex where
 t:List Tm
 c:Rat
def enT(t:Tm):List D:= .v (.int .i64 t.1)::enR t.2
def enTQ(t:Tm):List D:= .v (.int .i64 t.1)::enQ t.2
def enE(e:Ex):List D:= .l (e.t.map enT)::enR e.c
def enEQ(e:Ex):List D:= .l (e.t.map enTQ)::enQ e.c
structure EN where
 t:List (Int×Bool×List Nat×List Nat)
 c:Bool×List Nat×List Nat
def enTN(t:Int×Bool×List Nat×List Nat):List D:= .v (.int .i64 t.1)::enN t.2
def enEN(e:EN):List D:= .l (e.t.map enTN)::enN e.c
structure okEN(e:EN):Prop where
 t:∀ x∈e.t,okN x.2∧ -9223372036854775808≤x.1∧x.1≤9223372036854775807
 c:okN e.c
 l:e.t.length≤9223372036854775807
def tmN(t:Int×Bool×List Nat×List Nat):Tm:=(t.1,nQ t.2)
def exN(e:EN):Ex:=⟨(e.t.take 12).map tmN,nQ e.c⟩
theorem ofN(n:Bool×List Nat×List Nat)(hn:okN n):Fn Tryz.prog 65 [.g (enN n)] [.g (enR (nQ n))]:=by
 refine Fn.of Tryz.func65 rfl (by kernel_rfl) Tryz.ntmps65 Tryz.results65 rfl fun w0 S0=>?_;refine wk ?_;(first | intro K ms hms hK | intro K hK);((first | apply Chain.go | apply Chain.goD);exact rfl;exact rfl;refine Loc.callT (both n hn) rfl ?_;(repeat (first | exact trivial | refine⟨.inl rfl,?_⟩ | refine⟨.inr rfl,?_⟩)));refine wk ?_;exact⟨.cn rfl rfl inferInstance rfl ⟨.inl rfl,.inl rfl,.inl rfl,trivial⟩,trivial⟩
theorem expr(e:EN)(he:okEN e):Fn Tryz.prog 116 [.g (enEN e)] [.g (enE (exN e))]:=by
 have hlen:=he.l;refine Fn.of Tryz.func116 rfl (by kernel_rfl) Tryz.ntmps116 Tryz.results116 rfl fun w0 S0=>?_;refine wk ?_;(first | intro K ms hms hK | intro K hK);((first | apply Chain.go | apply Chain.goD);exact rfl;exact rfl;refine Loc.callG (ofN e.c he.c) rfl ?_;(repeat (first | exact trivial | refine⟨.inl rfl,?_⟩ | refine⟨.inr rfl,?_⟩)));refine wk ?_;refine AC.rowBox 3 0 37 178 4 rfl rfl rfl ?_;refine AC.loop (X:=Nat) (fun i=>⟨[(1,.p 1 0),(2,.p 2 0),(3,.p 3 0),(4,.d (.v (.int .i64 (i:Int))))],[(1,.box 114 ((enEN e).map .d)),(2,.box 106 [.d .n,.d (.v (.bool false)),.d .n,.d .n]),(3,.box 106 (.r 37 i::(enR (nQ e.c)).map .d)),(37,.row i 178 4 (((e.t.take i).map tmN).map enT))]⟩) (fun i=>i≤e.t.length∧i≤12) (fun i=>12-i) 0 ⟨Nat.zero_le _,Nat.zero_le _⟩ ⟨rfl,rfl,rfl,rfl,trivial⟩ ⟨rfl,rfl,rfl,rfl,trivial⟩ ?_;intro i ⟨hi,hi12⟩;have hend:(i=e.t.length∨i=12)→(e.t.take i).map tmN=(exN e).t:=fun h=>by
  show _=(e.t.take 12).map tmN;rcases h with h | h
  ·rw[h,List.take_of_length_le (Nat.le_refl _),List.take_of_length_le (by omega)]
  ·rw[h]
 refine wk ?_;(first | intro K ms hms hK | intro K hK);(first | refine Chain.lss rfl rfl rfl rfl rfl (fun h1=>?_) (fun h1=>?_) | refine Chain.lssD rfl rfl rfl rfl rfl (fun h1=>?_) (fun h1=>?_))
 ·have hi':i<e.t.length:=by omega
  have hget:e.t[i]?=some e.t[i]:=List.getElem?_eq_getElem hi';have hok:=he.t e.t[i] (List.getElem_mem hi');have hts:((e.t.take (i+1)).map tmN).map enT=((e.t.take i).map tmN).map enT++[enT (tmN e.t[i])]:=by
   rw[List.take_succ_eq_append_getElem hi',List.map_append,List.map_append];rfl
  refine wk ?_;(first | refine Chain.lss rfl rfl rfl rfl rfl (fun h2=>?_) (fun h2=>?_) | refine Chain.lssD rfl rfl rfl rfl rfl (fun h2=>?_) (fun h2=>?_))
  ·refine wk ?_;(first | intro K ms hms hK | intro K hK);((first | apply Chain.go | apply Chain.goD);exact rfl;exact rfl;refine Loc.callG (ofN e.t[i].2 hok.1) rfl ?_;(repeat (first | exact trivial | refine⟨.inl rfl,?_⟩ | refine⟨.inr rfl,?_⟩)));refine wk ?_;refine⟨i+1,⟨by omega,by omega⟩,by omega,⟨rfl,rfl,rfl,rfl,trivial⟩,⟨rfl,rfl,rfl,by rw[hts];rfl,trivial⟩⟩
  ·refine wk ?_;(first | intro K ms hms hK | intro K hK);refine Chain.frzBox 3 0 rfl rfl rfl ?_;refine wk ?_;rw[hend (by omega)];exact⟨.cn rfl rfl inferInstance rfl ⟨.inl rfl,.inl rfl,.inl rfl,.inl rfl,trivial⟩,trivial⟩
 ·refine wk ?_;(first | intro K ms hms hK | intro K hK);refine Chain.frzBox 3 0 rfl rfl rfl ?_;refine wk ?_;rw[hend (by omega)];exact⟨.cn rfl rfl inferInstance rfl ⟨.inl rfl,.inl rfl,.inl rfl,.inl rfl,trivial⟩,trivial⟩
end Go.Proofs.YtbbpecfapohlaaaGreatDoor
namespace Go.Proofs.YtbbpecfapohlaaaGreatDoor
open Go.RowKit
attribute [local irreducible] AC Do St
theorem bdN(n:Bool×List Nat×List Nat)(hn:okN n):Bd 256 (nQ n):=by
 have lt8:∀ l:List Nat,(∀y∈l,y<4294967296)→l.length≤8→dval 4294967296 l<2^256:=fun l h hl=>by
  have h1:dval 4294967296 l<4294967296^l.length:=dval_lt h;have h2:4294967296^l.length≤4294967296^8:=Nat.pow_le_pow_right (by decide) hl;have h3:(4294967296:Nat)^8=2^256:=by decide
  omega
 have hb:dval 4294967296 (barL n.2.2)<2^256:=by
  refine lt8 _ (fun y hy=>?_) (barL_len _);unfold barL at hy;split at hy
  ·simp at hy;omega
  ·exact hn.2 y (List.mem_of_mem_take hy)
 exact Bd.made (Nat.pos_iff_ne_zero.1 (barL_pos _)) (lt8 _ (fun y hy=>hn.1 y (List.mem_of_mem_take hy)) (by simp;omega)) hb
def okP(l:List (Bool×List Nat×List Nat)):Prop:=∀ n∈l,okN n
def ptN(l:List (Bool×List Nat×List Nat)):List Rat:=(l.take 6).map nQ
theorem point(l:List (Bool×List Nat×List Nat))(hl:okP l):Fn Tryz.prog 27 [.d (.l (l.map enN))] [.d (.l ((ptN l).map enR))]:=by
 refine Fn.of Tryz.func27 rfl (by kernel_rfl) Tryz.ntmps27 Tryz.results27 rfl fun w0 S0=>?_;refine wk ?_;refine AC.loop (X:=Nat) (fun i=>⟨[(0,.d (.l (l.map enN))),(3,.r 5 i),(4,.d (.v (.int .i64 (i:Int))))],[(5,.row i 104 3 (((l.take i).map nQ).map enR))]⟩) (fun i=>i≤l.length∧i≤6) (fun i=>6-i) 0 ⟨Nat.zero_le _,Nat.zero_le _⟩ ⟨rfl,rfl,rfl,trivial⟩ ⟨rfl,trivial⟩ ?_;intro i ⟨hi,hi6⟩;have hend:(i=l.length∨i=6)→(l.take i).map nQ=ptN l:=fun h=>by
  show _=(l.take 6).map nQ;rcases h with h | h
  ·rw[h,List.take_of_length_le (Nat.le_refl _),List.take_of_length_le (by omega)]
  ·rw[h]
 refine wk ?_;(first | intro K ms hms hK | intro K hK);(first | refine Chain.lss rfl rfl rfl rfl rfl (fun h1=>?_) (fun h1=>?_) | refine Chain.lssD rfl rfl rfl rfl rfl (fun h1=>?_) (fun h1=>?_))
 ·have hi':i<l.length:=by omega
  have hget:l[i]?=some l[i]:=List.getElem?_eq_getElem hi';have hok:=hl l[i] (List.getElem_mem hi');have hts:((l.take (i+1)).map nQ).map enR=((l.take i).map nQ).map enR++[enR (nQ l[i])]:=by
   rw[List.take_succ_eq_append_getElem hi',List.map_append,List.map_append];rfl
  refine wk ?_;(first | refine Chain.lss rfl rfl rfl rfl rfl (fun h2=>?_) (fun h2=>?_) | refine Chain.lssD rfl rfl rfl rfl rfl (fun h2=>?_) (fun h2=>?_))
  ·refine wk ?_;(first | intro K ms hms hK | intro K hK);((first | apply Chain.go | apply Chain.goD);exact rfl;exact rfl;refine Loc.callG (ofN l[i] hok) rfl ?_;(repeat (first | exact trivial | refine⟨.inl rfl,?_⟩ | refine⟨.inr rfl,?_⟩)));refine wk ?_;refine⟨i+1,⟨by omega,by omega⟩,by omega,⟨rfl,rfl,rfl,trivial⟩,⟨by rw[hts];rfl,trivial⟩⟩
  ·refine wk ?_;rw[hend (by omega)];exact⟨.d rfl ⟨_,_,rfl⟩,trivial⟩
 ·refine wk ?_;rw[hend (by omega)];exact⟨.d rfl ⟨_,_,rfl⟩,trivial⟩
theorem told8(e:Ex)(k:Nat)(hk:k≤10000000)(hc:Bd k e.c)(ht:∀ t∈e.t,Bd k t.2)(hlen:e.t.length≤1000000):Fn Tryz.prog 207 [.g (enE e)] [.g (enEQ e)]:=by
 refine Fn.of Tryz.func207 rfl (by kernel_rfl) Tryz.ntmps207 Tryz.results207 rfl fun w0 S0=>?_;refine wk ?_;(first | intro K ms hms hK | intro K hK);((first | apply Chain.go | apply Chain.goD);exact rfl;exact rfl;refine Loc.callG (told hc hk) rfl ?_;(repeat (first | exact trivial | refine⟨.inl rfl,?_⟩ | refine⟨.inr rfl,?_⟩)));refine wk ?_;refine AC.rowBox 3 0 26 192 4 rfl rfl rfl ?_;refine AC.loop (X:=Nat) (fun i=>⟨[(1,.p 1 0),(2,.p 2 0),(3,.p 3 0),(11,.d (.l (e.t.map enT))),(12,.d (.v (.int .i64 (e.t.length:Int)))),(13,.d (.v (.int .i64 (i:Int))))],[(2,.box 140 [.d .n,.d (.v (.bool false)),.d .n,.d .n]),(3,.box 140 (.r 26 i::(enQ e.c).map .d)),(26,.row i 192 4 ((e.t.take i).map enTQ))]⟩) (fun i=>i≤e.t.length) (fun i=>e.t.length-i) 0 (Nat.zero_le _) ⟨rfl,rfl,rfl,rfl,rfl,rfl,trivial⟩ ⟨rfl,rfl,rfl,trivial⟩ ?_;intro i hi;refine wk ?_;(first | intro K ms hms hK | intro K hK);(first | refine Chain.lss rfl rfl rfl rfl rfl (fun h1=>?_) (fun h1=>?_) | refine Chain.lssD rfl rfl rfl rfl rfl (fun h1=>?_) (fun h1=>?_))
 ·have hi':i<e.t.length:=by omega
  have hget:e.t[i]?=some e.t[i]:=List.getElem?_eq_getElem hi';have hts:(e.t.take (i+1)).map enTQ=(e.t.take i).map enTQ++[enTQ e.t[i]]:=by
   rw[List.take_succ_eq_append_getElem hi',List.map_append];rfl
  refine wk ?_;(first | intro K ms hms hK | intro K hK);((first | apply Chain.go | apply Chain.goD);exact rfl;exact rfl;refine Loc.callG (told (ht _ (List.getElem_mem hi')) hk) rfl ?_;(repeat (first | exact trivial | refine⟨.inl rfl,?_⟩ | refine⟨.inr rfl,?_⟩)));refine wk ?_;refine⟨i+1,by omega,by omega,⟨rfl,rfl,rfl,rfl,rfl,rfl,trivial⟩,⟨rfl,rfl,by rw[hts];rfl,trivial⟩⟩
 ·have hend:e.t.take i=e.t:=List.take_of_length_le (by omega);refine wk ?_;(first | intro K ms hms hK | intro K hK);refine Chain.frzBox 3 0 rfl rfl rfl ?_;refine wk ?_;rw[hend];exact⟨.cn rfl rfl inferInstance rfl ⟨.inl rfl,.inl rfl,.inl rfl,.inl rfl,trivial⟩,trivial⟩
theorem nums(l:List Rat)(k:Nat)(hk:k≤10000000)(ht:∀ t∈l,Bd k t)(hlen:l.length≤1000000):Fn Tryz.prog 26 [.d (.l (l.map enR))] [.d (.l (l.map enQ))]:=by
 refine Fn.of Tryz.func26 rfl (by kernel_rfl) Tryz.ntmps26 Tryz.results26 rfl fun w0 S0=>?_;refine wk ?_;refine AC.loop (X:=Nat) (fun i=>⟨[(3,.r 6 i),(7,.d (.l (l.map enR))),(8,.d (.v (.int .i64 (l.length:Int)))),(9,.d (.v (.int .i64 (i:Int))))],[(6,.row i 136 3 ((l.take i).map enQ))]⟩) (fun i=>i≤l.length) (fun i=>l.length-i) 0 (Nat.zero_le _) ⟨rfl,rfl,rfl,rfl,trivial⟩ ⟨rfl,trivial⟩ ?_;intro i hi;refine wk ?_;(first | intro K ms hms hK | intro K hK);(first | refine Chain.lss rfl rfl rfl rfl rfl (fun h1=>?_) (fun h1=>?_) | refine Chain.lssD rfl rfl rfl rfl rfl (fun h1=>?_) (fun h1=>?_))
 ·have hi':i<l.length:=by omega
  have hget:l[i]?=some l[i]:=List.getElem?_eq_getElem hi';have hts:(l.take (i+1)).map enQ=(l.take i).map enQ++[enQ l[i]]:=by
   rw[List.take_succ_eq_append_getElem hi',List.map_append];rfl
  refine wk ?_;(first | intro K ms hms hK | intro K hK);((first | apply Chain.go | apply Chain.goD);exact rfl;exact rfl;refine Loc.callG (told (ht _ (List.getElem_mem hi')) hk) rfl ?_;(repeat (first | exact trivial | refine⟨.inl rfl,?_⟩ | refine⟨.inr rfl,?_⟩)));refine wk ?_;refine⟨i+1,by omega,by omega,⟨rfl,rfl,rfl,rfl,trivial⟩,⟨by rw[hts];rfl,trivial⟩⟩
 ·have hend:l.take i=l:=List.take_of_length_le (by omega);refine wk ?_;rw[hend];exact⟨.d rfl ⟨_,_,rfl⟩,trivial⟩
end Go.Proofs.YtbbpecfapohlaaaGreatDoor
