import Derived.Test.YthdkkpocihkgbaaGreatDoorBr
import Derived.Test.YthdkkpocihkgbaaGreatDoorTy
import Derived.Test.YthdkkpocihkgbaaGreatDoorP1
set_option maxRecDepth 100000
set_option maxHeartbeats 1000000
namespace Go.Proofs.YthdkkpocihkgbaaGreatDoor
open Go.RowKit
attribute [local irreducible] AC Do St
theorem copyU(l:List Nat)(hl:l.length≤1000000000)(hd:∀ x∈l,x<4294967296):Fn Tryz.prog 167 [.d (enL l)] [.d (enL l)]:=
 ⟨⟨_,Tryz.func167,by kernel_rfl,by kernel_rfl⟩,fun S w vs hS hv=>by
   obtain⟨u,rfl,ha⟩:=hv.one;have q1:=oneU.ofRD (RD.mono ha hS) hd;obtain⟨a1,c1,e1,_⟩:=id q1;injection e1 with e1;subst e1;refine(copyU_any l a1 _ c1 w q1 hl).mono ?_;rintro e w' ⟨a,c,rfl,hx,hr⟩;exact⟨_,rfl,hx,RD.mono (oneU.toRD (fun _=>rfl) hr) mo_res⟩⟩
def enN(n:Bool×List Nat×List Nat):List D:=[.v (.bool n.1),enL n.2.1,enL n.2.2]
def okN(n:Bool×List Nat×List Nat):Prop:=(∀x∈n.2.1,x<4294967296)∧(∀x∈n.2.2,x<4294967296)
def nQ(n:Bool×List Nat×List Nat):Rat:=numQ n.1 n.2.1 n.2.2
theorem bits_8{l:List Nat}(h:∀ y∈l,y<4294967296)(hl:l.length≤8):(bits (dval 4294967296 l)).length≤100000000:=by
 have h1:dval 4294967296 l<4294967296^l.length:=dval_lt h;have h2:4294967296^l.length≤4294967296^8:=Nat.pow_le_pow_right (by decide) hl;have h3:(4294967296:Nat)^8=2^256:=by decide
 have:=bits_len_le (k:=256) (show dval 4294967296 l<2^256 by omega);omega
theorem both(n:Bool×List Nat×List Nat)(hn:okN n):Fn Tryz.prog 113 [.g (enN n)] [.g (enR (nQ n)),.g (enQ (nQ n))]:=by
 obtain⟨nb,x,d⟩:=n;obtain⟨hx,hd⟩:=hn;simp only at hx hd;have hx8:∀ y∈x.take 8,y<4294967296:=fun y hy=>hx y (List.mem_of_mem_take hy);have hd8:∀ y∈d.take 8,y<4294967296:=fun y hy=>hd y (List.mem_of_mem_take hy);have lx:(x.take 8).length≤8:=by simp;omega
 have ld:(d.take 8).length≤8:=by simp;omega
 have bx:(bits (dval 4294967296 (x.take 8))).length≤100000000:=bits_8 hx8 lx;refine Fn.of Tryz.func113 rfl (by kernel_rfl) Tryz.ntmps113 Tryz.results113 rfl fun w0 S0=>?_;refine wk ?_;(first | intro K ms hms hK | intro K hK);((first | apply Chain.go | apply Chain.goD);exact rfl;exact rfl;refine Loc.callD (few x hx) rfl ?_;(repeat (first | exact trivial | refine⟨.inl rfl,?_⟩ | refine⟨.inr rfl,?_⟩)));refine wk ?_;((first | apply Chain.go | apply Chain.goD);exact rfl;exact rfl;refine Loc.callD (few d hd) rfl ?_;(repeat (first | exact trivial | refine⟨.inl rfl,?_⟩ | refine⟨.inr rfl,?_⟩)));refine wk ?_;(first | intro K ms hms hK | intro K hK);((first | apply Chain.go | apply Chain.goD);exact rfl;exact rfl;refine Loc.callD (bitsOf (d.take 8) (by omega) hd8) rfl ?_;(repeat (first | exact trivial | refine⟨.inl rfl,?_⟩ | refine⟨.inr rfl,?_⟩)));refine wk ?_;have h0:dval 4294967296 (d.take 8)=0∨dval 4294967296 (d.take 8)≠0:=by omega
 rcases h0 with h0 | h0
 ·have hb:barL d=[1]:=by unfold barL;rw[if_pos h0]
  have hl:(bits (dval 4294967296 (d.take 8))).length=0:=by rw[h0,bits_eq_nil.2 rfl];rfl
  have hq:nQ (nb,x,d)=mkRat (sgn nb (dval 4294967296 (x.take 8))) (dval 4294967296 [1]):=by unfold nQ numQ;rw[hb]
  refine wk ?_;(first | intro K ms hms hK | intro K hK);((first | apply Chain.go | apply Chain.goD);exact rfl;exact rfl;refine Loc.callD (copyU (x.take 8) (by omega) hx8) rfl ?_;(repeat (first | exact trivial | refine⟨.inl rfl,?_⟩ | refine⟨.inr rfl,?_⟩)));refine wk ?_;((first | apply Chain.go | apply Chain.goD);exact rfl;exact rfl;refine Loc.callD (copyU [1] (by simp) (by simp)) rfl ?_;(repeat (first | exact trivial | refine⟨.inl rfl,?_⟩ | refine⟨.inr rfl,?_⟩)));refine wk ?_;((first | apply Chain.go | apply Chain.goD);exact rfl;exact rfl;refine Loc.callT (ratMake nb (x.take 8) [1] (by omega) (by simp) (by decide) hx8 (by simp)) rfl ?_;(repeat (first | exact trivial | refine⟨.inl rfl,?_⟩ | refine⟨.inr rfl,?_⟩)));refine wk ?_;(first | intro K ms hms hK | intro K hK);((first | apply Chain.go | apply Chain.goD);exact rfl;exact rfl;refine Loc.callD (bitsOf (x.take 8) (by omega) hx8) rfl ?_;(repeat (first | exact trivial | refine⟨.inl rfl,?_⟩ | refine⟨.inr rfl,?_⟩)));refine wk ?_;((first | apply Chain.go | apply Chain.goD);exact rfl;exact rfl;refine Loc.callD (bitsOf [1] (by simp) (by simp)) rfl ?_;(repeat (first | exact trivial | refine⟨.inl rfl,?_⟩ | refine⟨.inr rfl,?_⟩)));refine wk ?_;((first | apply Chain.go | apply Chain.goD);exact rfl;exact rfl;refine Loc.callG (qOf nb (dval 4294967296 (x.take 8)) (dval 4294967296 [1]) bx (bits_8 (by simp) (by simp)) (by decide)) rfl ?_;(repeat (first | exact trivial | refine⟨.inl rfl,?_⟩ | refine⟨.inr rfl,?_⟩)));refine wk ?_;rw[hq]
  exact⟨.cn rfl rfl inferInstance rfl ⟨.inl rfl,.inl rfl,.inl rfl,trivial⟩,.cn rfl rfl inferInstance rfl ⟨.inl rfl,.inl rfl,.inl rfl,trivial⟩,trivial⟩
 ·have hb:barL d=d.take 8:=by unfold barL;rw[if_neg h0]
  have hl:0<(bits (dval 4294967296 (d.take 8))).length:=List.length_pos_iff.2 (fun e=>h0 (bits_eq_nil.1 e));have hq:nQ (nb,x,d)=mkRat (sgn nb (dval 4294967296 (x.take 8))) (dval 4294967296 (d.take 8)):=by unfold nQ numQ;rw[hb]
  refine wk ?_;(first | intro K ms hms hK | intro K hK);((first | apply Chain.go | apply Chain.goD);exact rfl;exact rfl;refine Loc.callD (copyU (x.take 8) (by omega) hx8) rfl ?_;(repeat (first | exact trivial | refine⟨.inl rfl,?_⟩ | refine⟨.inr rfl,?_⟩)));refine wk ?_;((first | apply Chain.go | apply Chain.goD);exact rfl;exact rfl;refine Loc.callD (copyU (d.take 8) (by omega) hd8) rfl ?_;(repeat (first | exact trivial | refine⟨.inl rfl,?_⟩ | refine⟨.inr rfl,?_⟩)));refine wk ?_;((first | apply Chain.go | apply Chain.goD);exact rfl;exact rfl;refine Loc.callT (ratMake nb (x.take 8) (d.take 8) (by omega) (by omega) (by omega) hx8 hd8) rfl ?_;(repeat (first | exact trivial | refine⟨.inl rfl,?_⟩ | refine⟨.inr rfl,?_⟩)));refine wk ?_;(first | intro K ms hms hK | intro K hK);((first | apply Chain.go | apply Chain.goD);exact rfl;exact rfl;refine Loc.callD (bitsOf (x.take 8) (by omega) hx8) rfl ?_;(repeat (first | exact trivial | refine⟨.inl rfl,?_⟩ | refine⟨.inr rfl,?_⟩)));refine wk ?_;((first | apply Chain.go | apply Chain.goD);exact rfl;exact rfl;refine Loc.callD (bitsOf (d.take 8) (by omega) hd8) rfl ?_;(repeat (first | exact trivial | refine⟨.inl rfl,?_⟩ | refine⟨.inr rfl,?_⟩)));refine wk ?_;((first | apply Chain.go | apply Chain.goD);exact rfl;exact rfl;refine Loc.callG (qOf nb (dval 4294967296 (x.take 8)) (dval 4294967296 (d.take 8)) bx (bits_8 hd8 (by omega)) (by omega)) rfl ?_;(repeat (first | exact trivial | refine⟨.inl rfl,?_⟩ | refine⟨.inr rfl,?_⟩)));refine wk ?_;rw[hq]
  exact⟨.cn rfl rfl inferInstance rfl ⟨.inl rfl,.inl rfl,.inl rfl,trivial⟩,.cn rfl rfl inferInstance rfl ⟨.inl rfl,.inl rfl,.inl rfl,trivial⟩,trivial⟩
end Go.Proofs.YthdkkpocihkgbaaGreatDoor
namespace Go.Proofs.YthdkkpocihkgbaaGreatDoor
open Go.RowKit
attribute [local irreducible] AC Do St
structure Ex where
 t:List Tm
 c:Rat
def enT(t:Tm):List D:= .v (.int .i64 t.1)::enR t.2
def enTQ(t:Tm):List D:= .v (.int .i64 t.1)::enQ t.2
def enE(e:Ex):List D:= .l (e.t.map enT)::enR e.c
def enEQ(e:Ex):List D:= .l (e.t.map enTQ)::enQ e.c
structure EN where
 t:List (Int×Bool×List Nat×List Nat)
 c:Bool×List Nat×List Nat
def enTN(t:Int×Bool×List Nat×List Nat):List D:= .v (.int .i64 t.1)::enN t.2
def enEN(e:EN):List D:= .l (e.t.map enTN)::enN e.c
structure okEN(e:EN):Prop where
 t:∀ x∈e.t,okN x.2∧ -9223372036854775808≤x.1∧x.1≤9223372036854775807
 c:okN e.c
 l:e.t.length≤9223372036854775807
def tmN(t:Int×Bool×List Nat×List Nat):Tm:=(t.1,nQ t.2)
def exN(e:EN):Ex:=⟨(e.t.take 12).map tmN,nQ e.c⟩
theorem ofN(n:Bool×List Nat×List Nat)(hn:okN n):Fn Tryz.prog 55 [.g (enN n)] [.g (enR (nQ n))]:=by
 refine Fn.of Tryz.func55 rfl (by kernel_rfl) Tryz.ntmps55 Tryz.results55 rfl fun w0 S0=>?_;refine wk ?_;(first | intro K ms hms hK | intro K hK);((first | apply Chain.go | apply Chain.goD);exact rfl;exact rfl;refine Loc.callT (both n hn) rfl ?_;(repeat (first | exact trivial | refine⟨.inl rfl,?_⟩ | refine⟨.inr rfl,?_⟩)));refine wk ?_;exact⟨.cn rfl rfl inferInstance rfl ⟨.inl rfl,.inl rfl,.inl rfl,trivial⟩,trivial⟩
theorem expr(e:EN)(he:okEN e):Fn Tryz.prog 135 [.g (enEN e)] [.g (enE (exN e))]:=by
 have hlen:=he.l;refine Fn.of Tryz.func135 rfl (by kernel_rfl) Tryz.ntmps135 Tryz.results135 rfl fun w0 S0=>?_;refine wk ?_;(first | intro K ms hms hK | intro K hK);((first | apply Chain.go | apply Chain.goD);exact rfl;exact rfl;refine Loc.callG (ofN e.c he.c) rfl ?_;(repeat (first | exact trivial | refine⟨.inl rfl,?_⟩ | refine⟨.inr rfl,?_⟩)));refine wk ?_;refine AC.rowBox 3 0 37 161 4 rfl rfl rfl ?_;refine AC.loop (X:=Nat) (fun i=>⟨[(1,.p 1 0),(2,.p 2 0),(3,.p 3 0),(4,.d (.v (.int .i64 (i:Int))))],[(1,.box 167 ((enEN e).map .d)),(2,.box 155 [.d .n,.d (.v (.bool false)),.d .n,.d .n]),(3,.box 155 (.r 37 i::(enR (nQ e.c)).map .d)),(37,.row i 161 4 (((e.t.take i).map tmN).map enT))]⟩) (fun i=>i≤e.t.length∧i≤12) (fun i=>12-i) 0 ⟨Nat.zero_le _,Nat.zero_le _⟩ ⟨rfl,rfl,rfl,rfl,trivial⟩ ⟨rfl,rfl,rfl,rfl,trivial⟩ ?_;intro i ⟨hi,hi12⟩;have hend:(i=e.t.length∨i=12)→(e.t.take i).map tmN=(exN e).t:=fun h=>by
  show _=(e.t.take 12).map tmN;rcases h with h | h
  ·rw[h,List.take_of_length_le (Nat.le_refl _),List.take_of_length_le (by omega)]
  ·rw[h]
 refine wk ?_;(first | intro K ms hms hK | intro K hK);(first | refine Chain.lss rfl rfl rfl rfl rfl (fun h1=>?_) (fun h1=>?_) | refine Chain.lssD rfl rfl rfl rfl rfl (fun h1=>?_) (fun h1=>?_))
 ·have hi':i<e.t.length:=by omega
  have hget:e.t[i]?=some e.t[i]:=List.getElem?_eq_getElem hi';have hok:=he.t e.t[i] (List.getElem_mem hi');have hts:((e.t.take (i+1)).map tmN).map enT=((e.t.take i).map tmN).map enT++[enT (tmN e.t[i])]:=by
   rw[List.take_succ_eq_append_getElem hi',List.map_append,List.map_append];rfl
  refine wk ?_;(first | refine Chain.lss rfl rfl rfl rfl rfl (fun h2=>?_) (fun h2=>?_) | refine Chain.lssD rfl rfl rfl rfl rfl (fun h2=>?_) (fun h2=>?_))
  ·refine wk ?_;(first | intro K ms hms hK | intro K hK);((first | apply Chain.go | apply Chain.goD);exact rfl;exact rfl;refine Loc.callG (ofN e.t[i].2 hok.1) rfl ?_;(repeat (first | exact trivial | refine⟨.inl rfl,?_⟩ | refine⟨.inr rfl,?_⟩)));refine wk ?_;refine⟨i+1,⟨by omega,by omega⟩,by omega,⟨rfl,rfl,rfl,rfl,trivial⟩,⟨rfl,rfl,rfl,by rw[hts];rfl,trivial⟩⟩
  ·refine wk ?_;(first | intro K ms hms hK | intro K hK);refine Chain.frzBox 3 0 rfl rfl rfl ?_;refine wk ?_;rw[hend (by omega)];exact⟨.cn rfl rfl inferInstance rfl ⟨.inl rfl,.inl rfl,.inl rfl,.inl rfl,trivial⟩,trivial⟩
 ·refine wk ?_;(first | intro K ms hms hK | intro K hK);refine Chain.frzBox 3 0 rfl rfl rfl ?_;refine wk ?_;rw[hend (by omega)];exact⟨.cn rfl rfl inferInstance rfl ⟨.inl rfl,.inl rfl,.inl rfl,.inl rfl,trivial⟩,trivial⟩
end Go.Proofs.YthdkkpocihkgbaaGreatDoor
namespace Go.Proofs.YthdkkpocihkgbaaGreatDoor
open Go.RowKit
attribute [local irreducible] AC Do St
theorem bdN(n:Bool×List Nat×List Nat)(hn:okN n):Bd 256 (nQ n):=by
 have lt8:∀ l:List Nat,(∀y∈l,y<4294967296)→l.length≤8→dval 4294967296 l<2^256:=fun l h hl=>by
  have h1:dval 4294967296 l<4294967296^l.length:=dval_lt h;have h2:4294967296^l.length≤4294967296^8:=Nat.pow_le_pow_right (by decide) hl;have h3:(4294967296:Nat)^8=2^256:=by decide
  omega
 have hb:dval 4294967296 (barL n.2.2)<2^256:=by
  refine lt8 _ (fun y hy=>?_) (barL_len _);unfold barL at hy;split at hy
  ·simp at hy;omega
  ·exact hn.2 y (List.mem_of_mem_take hy)
 exact Bd.made (Nat.pos_iff_ne_zero.1 (barL_pos _)) (lt8 _ (fun y hy=>hn.1 y (List.mem_of_mem_take hy)) (by simp;omega)) hb
def okP(l:List (Bool×List Nat×List Nat)):Prop:=∀ n∈l,okN n
theorem told8(e:Ex)(k:Nat)(hk:k≤10000000)(hc:Bd k e.c)(ht:∀ t∈e.t,Bd k t.2)(hlen:e.t.length≤1000000):Fn Tryz.prog 187 [.g (enE e)] [.g (enEQ e)]:=by
 refine Fn.of Tryz.func187 rfl (by kernel_rfl) Tryz.ntmps187 Tryz.results187 rfl fun w0 S0=>?_;refine wk ?_;(first | intro K ms hms hK | intro K hK);((first | apply Chain.go | apply Chain.goD);exact rfl;exact rfl;refine Loc.callG (told hc hk) rfl ?_;(repeat (first | exact trivial | refine⟨.inl rfl,?_⟩ | refine⟨.inr rfl,?_⟩)));refine wk ?_;refine AC.rowBox 3 0 26 179 4 rfl rfl rfl ?_;refine AC.loop (X:=Nat) (fun i=>⟨[(1,.p 1 0),(2,.p 2 0),(3,.p 3 0),(11,.d (.l (e.t.map enT))),(12,.d (.v (.int .i64 (e.t.length:Int)))),(13,.d (.v (.int .i64 (i:Int))))],[(2,.box 175 [.d .n,.d (.v (.bool false)),.d .n,.d .n]),(3,.box 175 (.r 26 i::(enQ e.c).map .d)),(26,.row i 179 4 ((e.t.take i).map enTQ))]⟩) (fun i=>i≤e.t.length) (fun i=>e.t.length-i) 0 (Nat.zero_le _) ⟨rfl,rfl,rfl,rfl,rfl,rfl,trivial⟩ ⟨rfl,rfl,rfl,trivial⟩ ?_;intro i hi;refine wk ?_;(first | intro K ms hms hK | intro K hK);(first | refine Chain.lss rfl rfl rfl rfl rfl (fun h1=>?_) (fun h1=>?_) | refine Chain.lssD rfl rfl rfl rfl rfl (fun h1=>?_) (fun h1=>?_))
 ·have hi':i<e.t.length:=by omega
  have hget:e.t[i]?=some e.t[i]:=List.getElem?_eq_getElem hi';have hts:(e.t.take (i+1)).map enTQ=(e.t.take i).map enTQ++[enTQ e.t[i]]:=by
   rw[List.take_succ_eq_append_getElem hi',List.map_append];rfl
  refine wk ?_;(first | intro K ms hms hK | intro K hK);((first | apply Chain.go | apply Chain.goD);exact rfl;exact rfl;refine Loc.callG (told (ht _ (List.getElem_mem hi')) hk) rfl ?_;(repeat (first | exact trivial | refine⟨.inl rfl,?_⟩ | refine⟨.inr rfl,?_⟩)));refine wk ?_;refine⟨i+1,by omega,by omega,⟨rfl,rfl,rfl,rfl,rfl,rfl,trivial⟩,⟨rfl,rfl,by rw[hts];rfl,trivial⟩⟩
 ·have hend:e.t.take i=e.t:=List.take_of_length_le (by omega);refine wk ?_;(first | intro K ms hms hK | intro K hK);refine Chain.frzBox 3 0 rfl rfl rfl ?_;refine wk ?_;rw[hend];exact⟨.cn rfl rfl inferInstance rfl ⟨.inl rfl,.inl rfl,.inl rfl,.inl rfl,trivial⟩,trivial⟩
theorem nums(l:List Rat)(k:Nat)(hk:k≤10000000)(ht:∀ t∈l,Bd k t)(hlen:l.length≤1000000):Fn Tryz.prog 24 [.d (.l (l.map enR))] [.d (.l (l.map enQ))]:=by
 refine Fn.of Tryz.func24 rfl (by kernel_rfl) Tryz.ntmps24 Tryz.results24 rfl fun w0 S0=>?_;refine wk ?_;refine AC.loop (X:=Nat) (fun i=>⟨[(3,.r 6 i),(7,.d (.l (l.map enR))),(8,.d (.v (.int .i64 (l.length:Int)))),(9,.d (.v (.int .i64 (i:Int))))],[(6,.row i 136 3 ((l.take i).map enQ))]⟩) (fun i=>i≤l.length) (fun i=>l.length-i) 0 (Nat.zero_le _) ⟨rfl,rfl,rfl,rfl,trivial⟩ ⟨rfl,trivial⟩ ?_;intro i hi;refine wk ?_;(first | intro K ms hms hK | intro K hK);(first | refine Chain.lss rfl rfl rfl rfl rfl (fun h1=>?_) (fun h1=>?_) | refine Chain.lssD rfl rfl rfl rfl rfl (fun h1=>?_) (fun h1=>?_))
 ·have hi':i<l.length:=by omega
  have hget:l[i]?=some l[i]:=List.getElem?_eq_getElem hi';have hts:(l.take (i+1)).map enQ=(l.take i).map enQ++[enQ l[i]]:=by
   rw[List.take_succ_eq_append_getElem hi',List.map_append];rfl
  refine wk ?_;(first | intro K ms hms hK | intro K hK);((first | apply Chain.go | apply Chain.goD);exact rfl;exact rfl;refine Loc.callG (told (ht _ (List.getElem_mem hi')) hk) rfl ?_;(repeat (first | exact trivial | refine⟨.inl rfl,?_⟩ | refine⟨.inr rfl,?_⟩)));refine wk ?_;refine⟨i+1,by omega,by omega,⟨rfl,rfl,rfl,rfl,trivial⟩,⟨by rw[hts];rfl,trivial⟩⟩
 ·have hend:l.take i=l:=List.take_of_length_le (by omega);refine wk ?_;rw[hend];exact⟨.d rfl ⟨_,_,rfl⟩,trivial⟩
end Go.Proofs.YthdkkpocihkgbaaGreatDoor
