import Derived.Test.YtbbpecfapohlaaaGreatDoorK3
import Derived.Test.YtbbpecfapohlaaaGreatDoorTy
import Derived.Test.YtbbpecfapohlaaaGreatDoorOx
import Derived.Test.YtbbpecfapohlaaaGreatDoorOpen
import Derived.Test.YtbbpecfapohlaaaGreatDoorLst
import Derived.Test.YtbbpecfapohlaaaGreatDoorPfG
import Derived.Test.YtbbpecfapohlaaaGreatDoorSmF
import Derived.Test.YtbbpecfapohlaaaGreatDoorOpA
set_option maxRecDepth 100000
set_option maxHeartbeats 8000000
namespace Go.Proofs.YtbbpecfapohlaaaGreatDoor
open Go.RowKit
attribute [local irreducible] AC Do St
inductive ST where
 | mk (b:Bool) (w:List UInt8) (l:List ST)
def ST.b:ST→Bool
 | .mk b _ _=>b
def ST.w:ST→List UInt8
 | .mk _ w _=>w
def ST.l:ST→List ST
 | .mk _ _ l=>l
def plainB(c:UInt8):Bool:=decide (32<c.toNat)&&(decide (c.toNat<127)&&(!decide (c.toNat=40)&&(!decide (c.toNat=41)&&!decide (c.toNat=59))))
mutual
def wdX:ST→Bool
 | .mk b w l=>if b=true then !w.isEmpty&&w.all plainB else wdXs l
def wdXs:List ST→Bool
 | []=>true
 | f::r=>wdX f&&wdXs r
end
theorem wdX_l(w:List UInt8)(l:List ST):wdX (.mk false w l)=wdXs l:=by
 rw[wdX];exact if_neg (by decide)
end Go.Proofs.YtbbpecfapohlaaaGreatDoor
namespace Go.Proofs.YtbbpecfapohlaaaGreatDoor
open Go.RowKit
attribute [local irreducible] AC Do St
section
variable {P:Program}{C:Cx}{o:Oper}{σ:AS}
end
theorem wr{p q:Prop}(k:q)(hs:Wk q→p:=by
  intro k
  try (first | intro K ms hms hK | intro K hK)
  repeat (first
   | refine Chain.no rfl rfl ?_
   | refine Chain.noD rfl rfl ?_
   | ((first | apply Chain.go | apply Chain.goD);exact rfl;exact rfl;first
     | exact Loc.move (v:= .d _) rfl rfl
     | exact Loc.assign (v:= .d _) rfl rfl
     | exact Loc.chkV rfl rfl
     | exact Loc.chkP rfl rfl rfl
     | exact Loc.fieldV rfl rfl
     | exact Loc.lenV rfl rfl
     | exact Loc.loadB1 (id:=164) rfl rfl rfl rfl
     | exact Loc.loadB1 (id:=119) rfl rfl rfl rfl
     | exact Loc.loadB1 (id:=181) rfl rfl rfl rfl
     | exact Loc.loadB1 (id:=200) rfl rfl rfl rfl
     | exact Loc.loadB1 (id:=12) rfl rfl rfl rfl
     | exact Loc.loadP1 rfl rfl rfl rfl
     | exact Loc.loadQ1 rfl rfl rfl
     | exact Loc.fieldP rfl rfl rfl
     | exact Loc.fieldQ rfl rfl
     | exact Loc.pickT (v:= .d _) rfl rfl rfl
     | exact Loc.pickF (v:= .d _) rfl rfl rfl
     | exact Loc.loadPn rfl rfl rfl rfl (by kernel_rfl)
     | exact Loc.loadQw rfl rfl rfl
     | exact Loc.loadQn rfl rfl rfl rfl
     | exact Loc.idxM rfl rfl rfl rfl (by assumption) rfl
     | exact Loc.lenM rfl rfl
     | exact Loc.lenN rfl rfl
     | exact Loc.lenR rfl rfl rfl
     | exact Loc.len rfl rfl
     | exact Loc.lssT rfl rfl rfl (by omega)
     | exact Loc.lssF rfl rfl rfl (by omega)
     | exact Loc.eqlT rfl rfl rfl (by omega)
     | exact Loc.eqlF rfl rfl rfl (by omega)
     | exact Loc.neqT rfl rfl rfl (by omega)
     | exact Loc.neqF rfl rfl rfl (by omega)
     | exact Loc.gtrT rfl rfl rfl (by omega)
     | exact Loc.gtrF rfl rfl rfl (by omega)
     | exact Loc.geqT rfl rfl rfl (by omega)
     | exact Loc.geqF rfl rfl rfl (by omega)
     | exact Loc.leqT rfl rfl rfl (by omega)
     | exact Loc.leqF rfl rfl rfl (by omega)
     | exact Loc.add rfl rfl rfl (IntWalk.i64_in _ (by omega))
     | exact Loc.sub rfl rfl rfl (IntWalk.i64_in _ (by omega))
     | exact Loc.notT rfl rfl
     | exact Loc.notF rfl rfl
     | exact Loc.fieldE rfl rfl rfl
     | exact Loc.loadE1 rfl rfl rfl (by assumption) rfl
     | exact Loc.idxR rfl rfl rfl rfl rfl (by omega) rfl
     | exact Loc.move (v:= .g _) rfl rfl
     | exact Loc.move (v:= .p _ _) rfl rfl
     | exact Loc.move (v:= .r _ _) rfl rfl
     | exact Loc.move (v:= .t _) rfl rfl
     | exact Loc.assign (v:= .g _) rfl rfl
     | exact Loc.assign (v:= .r _ _) rfl rfl
     | exact Loc.assign (v:= .p _ _) rfl rfl
     | exact Loc.extract (v:= .d _) rfl rfl rfl rfl
     | exact Loc.extract (v:= .g _) rfl rfl rfl rfl
     | exact Loc.pickT (v:= .g _) rfl rfl rfl
     | exact Loc.pickF (v:= .g _) rfl rfl rfl
     | exact Loc.move (v:= .un) rfl rfl
     | exact Loc.build rfl rfl rfl rfl)
   | refine Chain.nil0 (hK _ ?_)
   | ((first | apply Chain.st | apply Chain.stD);exact rfl;exact rfl;(first
     | exact Do.storeB (id:=164) rfl rfl rfl rfl rfl rfl rfl rfl
     | exact Do.storeB (id:=119) rfl rfl rfl rfl rfl rfl rfl rfl
     | exact Do.storeB (id:=181) rfl rfl rfl rfl rfl rfl rfl rfl
     | exact Do.storeB (id:=200) rfl rfl rfl rfl rfl rfl rfl rfl
     | exact Do.storeB (id:=12) rfl rfl rfl rfl rfl rfl rfl rfl
     | exact Do.storeP rfl rfl rfl rfl .g rfl rfl rfl
     | exact Do.storeP rfl rfl rfl rfl .d rfl rfl rfl
     | exact Do.storeP rfl rfl rfl rfl (.r rfl) rfl rfl rfl);exact rfl;exact rfl)
   | ((first | apply Chain.ef | apply Chain.efD);exact rfl;exact rfl;(first
     | exact Do.alloc rfl rfl rfl
     | exact Do.box rfl rfl rfl .g rfl
     | exact Do.box rfl rfl rfl .d rfl
     | exact Do.lit0 rfl rfl
     | exact Do.append1 rfl rfl rfl rfl rfl rfl (by first | omega | (simp;omega))
     | exact Do.appendN1 rfl rfl rfl rfl rfl rfl);exact rfl;exact rfl)
   | refine Chain.nilD (by rw[hms];kernel_rfl) (hK _ ?_)
   | refine Chain.noN rfl rfl ?_
   | refine AC.seq ?_
   | (refine AC.reg (by decide+kernel) ?_;intro K hK)
   | (refine AC.regG (by decide+kernel) ?_;intro K hK)
   | (refine AC.drw (by kernel_rfl) (by decide+kernel) ?_;intro K ms hms hK)
   | (refine AC.drwG (by kernel_rfl) (by decide+kernel) ?_;intro K ms hms hK)
   | refine AC.condT rfl ?_
   | refine AC.condF rfl ?_
   | refine AC.block ?_
   | refine AC.exit ?_
   | refine AC.ret ?_
   | refine AC.skip ?_)
  first
   | exact k.out
   | (revert K;exact k.out)
   | (revert K ms;exact k.out)):p:=hs ⟨k⟩
end Go.Proofs.YtbbpecfapohlaaaGreatDoor
namespace Go.Proofs.YtbbpecfapohlaaaGreatDoor
open Go.RowKit
section
variable {P:Program}{C:Cx}{o:Oper}{σ:AS}
end
attribute [local irreducible] AC Do St
inductive PX where
 | ok (out:List ST) (rest:List UInt8) (n:Int)
 | bad (e:Int) (left:Nat)
def PX.cons(t:ST):PX→PX
 | .ok out r n=> .ok (t::out) r n
 | .bad e p=> .bad e p
def PX.next(p:PX)(f:List ST→List UInt8→Int→PX):PX:=match p with
 | .ok out r n=>f out r n
 | .bad e p=> .bad e p
def PX.app(out:List ST):PX→PX
 | .ok o r n=> .ok (out++o) r n
 | .bad e p=> .bad e p
end Go.Proofs.YtbbpecfapohlaaaGreatDoor
namespace Go.Proofs.YtbbpecfapohlaaaGreatDoor
open Go.RowKit
attribute [local irreducible] AC Do St
mutual
def nfX:ST→Prop
 | .mk b w l=>(b=true→l=[])∧(b=false→w=[])∧nfXs l
def nfXs:List ST→Prop
 | []=>True
 | s::r=>nfX s∧nfXs r
end
theorem nfX_mk(b:Bool)(w:List UInt8)(l:List ST):nfX (.mk b w l)=((b=true→l=[])∧(b=false→w=[])∧nfXs l):=by rw[nfX]
theorem nfXs_all:∀ {l:List ST},(∀s∈l,nfX s)→nfXs l
 | [],_=>by rw[nfXs];trivial
 | x::r,h=>by rw[nfXs];exact⟨h x (by simp),nfXs_all fun s hs=>h s (by simp[hs])⟩
theorem wdXs_all:∀ (l:List ST),wdXs l=l.all wdX
 | []=>by rw[wdXs];rfl
 | x::r=>by rw[wdXs,wdXs_all r];rfl
end Go.Proofs.YtbbpecfapohlaaaGreatDoor
namespace Go.Proofs.YtbbpecfapohlaaaGreatDoor
open Go.RowKit
attribute [local irreducible] AC Do St
mutual
def wX:ST→Nat
 | .mk _ w l=>w.length+1+wXs l
def wXs:List ST→Nat
 | []=>0
 | s::r=>wX s+wXs r
end
mutual
def cX:ST→Nat
 | .mk _ _ l=>1+cXs l
def cXs:List ST→Nat
 | []=>0
 | s::r=>cX s+cXs r
end
theorem wX_mk(b:Bool)(w:List UInt8)(l:List ST):wX (.mk b w l)=w.length+1+wXs l:=by rw[wX]
theorem cX_mk(b:Bool)(w:List UInt8)(l:List ST):cX (.mk b w l)=1+cXs l:=by rw[cX]
theorem nf_l{l:List ST}(h:∀ x∈l,nfX x):nfX (.mk false [] l):=by
 rw[nfX_mk];exact⟨(fun h=>nomatch h),fun _=>rfl,nfXs_all h⟩
end Go.Proofs.YtbbpecfapohlaaaGreatDoor
namespace Go.Proofs.YtbbpecfapohlaaaGreatDoor
open Go.RowKit
attribute [local irreducible] AC Do St
mutual
def htX:ST→Nat
 | .mk b _ l=>if b=true then 0 else 1+htXs l
def htXs:List ST→Nat
 | []=>0
 | s::r=>max (htX s) (htXs r)
end
structure Fit(s:ST)(c w h:Nat):Prop where
 nf:nfX s
 wd:wdX s=true
 c:cX s≤c
 w:wX s≤w
 h:htX s≤h
theorem Fit.up{s:ST}{c w h c' w' h':Nat}(f:Fit s c w h)(h1:c≤c')(h2:w≤w')(h3:h≤h'):Fit s c' w' h':=⟨f.nf,f.wd,Nat.le_trans f.c h1,Nat.le_trans f.w h2,Nat.le_trans f.h h3⟩
theorem htXs_le{h:Nat}:∀ {l:List ST},(∀s∈l,htX s≤h)→htXs l≤h
 | [],_=>by rw[htXs];omega
 | s::r,hl=>by
   rw[htXs];have:=hl s (by simp);have:=htXs_le (l:=r) fun x hx=>hl x (by simp[hx]);omega
theorem Fit.row{l:List ST}{c w h:Nat}(hl:∀ s∈l,nfX s∧wdX s=true∧htX s≤h)(hc:cXs l+1≤c)(hw:wXs l+1≤w):Fit (.mk false [] l) c w (h+1):=
 ⟨nf_l fun s hs=>(hl s hs).1,by rw[wdX_l,wdXs_all,List.all_eq_true];exact fun s hs=>(hl s hs).2.1,by rw[cX_mk];omega,by rw[wX_mk];simp only[List.length_nil];omega,by
  rw[htX,if_neg (by decide)];have:=htXs_le fun s hs=>(hl s hs).2.2;omega⟩
end Go.Proofs.YtbbpecfapohlaaaGreatDoor
namespace Go.Proofs.YtbbpecfapohlaaaGreatDoor
open Go.RowKit
attribute [local irreducible] AC Do St
def lstT(l:List ST):ST:= .mk false [] l
theorem Fit.lst{l:List ST}{c w h:Nat}(hl:∀ s∈l,nfX s∧wdX s=true∧htX s≤h)(hc:cXs l+1≤c)(hw:wXs l+1≤w):Fit (lstT l) c w (h+1):=Fit.row hl hc hw
theorem Fit.three{s:ST}{c w h:Nat}(f:Fit s c w h){h':Nat}(hh:h≤h'):nfX s∧wdX s=true∧htX s≤h':=⟨f.nf,f.wd,Nat.le_trans f.h hh⟩
section
variable {Kw:World→Prop}[KSt Kw][KHas Kw Tab]
end
end Go.Proofs.YtbbpecfapohlaaaGreatDoor
namespace Go.Proofs.YtbbpecfapohlaaaGreatDoor
open Go.RowKit
attribute [local irreducible] AC Do St
theorem true14(p:SP)(l:Int)(xs:List Rat)(bs:List Bool)(ha:∀ a∈p.a,OkAt a)(hn:p.a.length≤1000)(hk:knoL p.b p.a.length l)(hx:OkXs xs):Fn Tryz.prog 73 [.g (enSPQ p),.d (.v (.int .i64 l)),.d (.l (xs.map enQ)),.d (enBs bs)] [.d (.v (.bool (truB p xs bs l)))]:=by
 obtain⟨hok,hkn⟩:=hk;have m1:=max_sz hok;obtain⟨l0,l1,l2⟩:=hok;have w1:IntKind.i64.wrap (0-l)= -l:=by rw[Int.zero_sub];exact IntWalk.i64_in _ (by omega)
 obtain⟨z1,z2⟩:=szI_ok ⟨l0,l1,l2⟩;have hlb:(bs.map bI).length=bs.length:=List.length_map ..;have hla:(p.a.map enAQ).length=p.a.length:=List.length_map ..;obtain⟨R,hR⟩:∃ R,truB p xs bs l=R:=⟨_,rfl⟩
 rw[hR];unfold truB at hR;generalize szI l=z at m1 z1 z2 hR hkn;by_cases h1:z-1<p.b
 ·rw[if_pos h1]at hR;obtain⟨v,hv⟩:∃ v:Nat,z=(v:Int)+1:=⟨(z-1).toNat,by omega⟩
  rw[show (z-1).toNat=v by omega]at hR;by_cases h2:v<bs.length
  ·have hg:=List.getElem?_eq_getElem h2;rw[hg,Option.getD_some]at hR;generalize bs[v]=t at hR hg;by_cases hl:0<l
   ·rw[decide_eq_true hl]at hR;cases t<;>(subst hR;refine Fn.of Tryz.func73 rfl (by kernel_rfl) Tryz.ntmps73 Tryz.results73 rfl fun w0 S0=>?_;refine wa ?_;((try (first | intro K ms hms hK | intro K hK));(first | apply Chain.go | apply Chain.goD);exact rfl;exact rfl;exact Loc.negM rfl rfl w1);refine wa ?_;((try (first | intro K ms hms hK | intro K hK));(first | apply Chain.go | apply Chain.goD);exact rfl;exact rfl;exact Loc.maxZ rfl rfl rfl m1);refine wa ?_;((try (first | intro K ms hms hK | intro K hK));(first | apply Chain.go | apply Chain.goD);exact rfl;exact rfl;exact Loc.idxM (i:=v) rfl rfl rfl (by omega) hg rfl);refine wa ?_;exact⟨.d rfl (.inl rfl),trivial⟩)
   ·rw[decide_eq_false hl]at hR;cases t<;>(subst hR;refine Fn.of Tryz.func73 rfl (by kernel_rfl) Tryz.ntmps73 Tryz.results73 rfl fun w0 S0=>?_;refine wa ?_;((try (first | intro K ms hms hK | intro K hK));(first | apply Chain.go | apply Chain.goD);exact rfl;exact rfl;exact Loc.negM rfl rfl w1);refine wa ?_;((try (first | intro K ms hms hK | intro K hK));(first | apply Chain.go | apply Chain.goD);exact rfl;exact rfl;exact Loc.maxZ rfl rfl rfl m1);refine wa ?_;((try (first | intro K ms hms hK | intro K hK));(first | apply Chain.go | apply Chain.goD);exact rfl;exact rfl;exact Loc.idxM (i:=v) rfl rfl rfl (by omega) hg rfl);refine wa ?_;exact⟨.d rfl (.inl rfl),trivial⟩)
  ·rw[List.getElem?_eq_none (by omega),Option.getD_none]at hR;by_cases hl:0<l
   ·rw[decide_eq_true hl]at hR;subst hR;refine Fn.of Tryz.func73 rfl (by kernel_rfl) Tryz.ntmps73 Tryz.results73 rfl fun w0 S0=>?_;refine wa ?_;((try (first | intro K ms hms hK | intro K hK));(first | apply Chain.go | apply Chain.goD);exact rfl;exact rfl;exact Loc.negM rfl rfl w1);refine wa ?_;((try (first | intro K ms hms hK | intro K hK));(first | apply Chain.go | apply Chain.goD);exact rfl;exact rfl;exact Loc.maxZ rfl rfl rfl m1);refine wa ?_;exact⟨.d rfl (.inl rfl),trivial⟩
   ·rw[decide_eq_false hl]at hR;subst hR;refine Fn.of Tryz.func73 rfl (by kernel_rfl) Tryz.ntmps73 Tryz.results73 rfl fun w0 S0=>?_;refine wa ?_;((try (first | intro K ms hms hK | intro K hK));(first | apply Chain.go | apply Chain.goD);exact rfl;exact rfl;exact Loc.negM rfl rfl w1);refine wa ?_;((try (first | intro K ms hms hK | intro K hK));(first | apply Chain.go | apply Chain.goD);exact rfl;exact rfl;exact Loc.maxZ rfl rfl rfl m1);refine wa ?_;exact⟨.d rfl (.inl rfl),trivial⟩
 ·rw[if_neg h1]at hR;obtain⟨v,hv⟩:∃ v:Nat,z=(v:Int)+p.b+1:=⟨(z-p.b-1).toNat,by omega⟩
  rw[show (z-1-p.b).toNat=v by omega]at hR;have h2:v<p.a.length:=by omega
  have hg:=List.getElem?_eq_getElem h2;rw[hg]at hR;have ha1:=ha _ (List.getElem_mem h2);generalize p.a[v]=x at hg hR ha1;have hev:=evalP x.e xs ha1.sm hx.b hx.n (by omega);have hsy:=saysQ x.op (x.e.c+evalT xs x.e.t);have hR':decide (atP x xs=decide (0<l))=R:=hR;clear hR;have hat:atP x xs=sayB x.op (x.e.c+evalT xs x.e.t):=rfl;rw[hat]at hR';generalize x.e.c+evalT xs x.e.t=ev at hev hsy hR';generalize sayB x.op ev=t at hR' hsy;have hR:=hR';clear hR';by_cases hl:0<l
  ·rw[decide_eq_true hl]at hR;cases t<;>(subst hR;refine Fn.of Tryz.func73 rfl (by kernel_rfl) Tryz.ntmps73 Tryz.results73 rfl fun w0 S0=>?_;refine wa ?_;((try (first | intro K ms hms hK | intro K hK));(first | apply Chain.go | apply Chain.goD);exact rfl;exact rfl;exact Loc.negM rfl rfl w1);refine wa ?_;((try (first | intro K ms hms hK | intro K hK));(first | apply Chain.go | apply Chain.goD);exact rfl;exact rfl;exact Loc.maxZ rfl rfl rfl m1);refine wa ?_;((try (first | intro K ms hms hK | intro K hK));(first | apply Chain.go | apply Chain.goD);exact rfl;exact rfl;exact Loc.idxM (i:=v) rfl rfl rfl (by omega) hg rfl);refine wa ?_;exact⟨.d rfl (.inl rfl),trivial⟩)
  ·rw[decide_eq_false hl]at hR;cases t<;>(subst hR;refine Fn.of Tryz.func73 rfl (by kernel_rfl) Tryz.ntmps73 Tryz.results73 rfl fun w0 S0=>?_;refine wa ?_;((try (first | intro K ms hms hK | intro K hK));(first | apply Chain.go | apply Chain.goD);exact rfl;exact rfl;exact Loc.negM rfl rfl w1);refine wa ?_;((try (first | intro K ms hms hK | intro K hK));(first | apply Chain.go | apply Chain.goD);exact rfl;exact rfl;exact Loc.maxZ rfl rfl rfl m1);refine wa ?_;((try (first | intro K ms hms hK | intro K hK));(first | apply Chain.go | apply Chain.goD);exact rfl;exact rfl;exact Loc.idxM (i:=v) rfl rfl rfl (by omega) hg rfl);refine wa ?_;exact⟨.d rfl (.inl rfl),trivial⟩)
end Go.Proofs.YtbbpecfapohlaaaGreatDoor
namespace Go.Proofs.YtbbpecfapohlaaaGreatDoor
open Go.RowKit
attribute [local irreducible] AC Do St
theorem holds14(p:SP)(hp:OkSP p)(hl:Loose p)(xs:List Rat)(bs:List Bool)(hx:OkXs xs):Fn Tryz.prog 25 [.g (enSPQ p),.d (.l (xs.map enQ)),.d (enBs bs)] [.d (.v (.bool (holP p xs bs)))]:=by
 have han:=hp.an;have hcn:=hp.cn;have hcl:=hp.cl;have htr:=fun l (hk:knoL p.b p.a.length l)=>true14 p l xs bs hp.a (by omega) hk hx;have hkn:=hl.c;have hR1:(∀c∈p.c,c.any (truB p xs bs)=true)→holP p xs bs=true:=fun h=>List.all_eq_true.2 h;have hR0:(∃c∈p.c,c.any (truB p xs bs)=false)→holP p xs bs=false:=fun⟨c,h,h1⟩=>by
  cases e:holP p xs bs with
  | false=>rfl
  | true=>rw[List.all_eq_true.1 e c h]at h1;cases h1
 generalize holP p xs bs=R at hR1 hR0;clear hl hp;have hlc:(p.c.map enCl).length=p.c.length:=List.length_map ..;refine Fn.of Tryz.func25 rfl (by kernel_rfl) Tryz.ntmps25 Tryz.results25 rfl fun w0 S0=>?_;refine wa ?_;refine AC.loop (X:=Nat) (fun i=>⟨[(1,.d (.l (xs.map enQ))),(2,.d (enBs bs)),(3,.p 3 0),(13,.d (.l (p.c.map enCl))),(14,.d (.v (.int .i64 (p.c.length:Int)))),(15,.d (.v (.int .i64 (i:Int))))],[(3,.box 42 ((enSPQ p).map .d))]⟩) (fun i=>i≤p.c.length∧∀ c∈p.c.take i,c.any (truB p xs bs)=true) (fun i=>p.c.length-i) 0 ⟨Nat.zero_le _,fun l hl=>by simp at hl⟩ ⟨rfl,rfl,rfl,rfl,rfl,rfl,trivial⟩ ⟨rfl,trivial⟩ ?_;intro i ⟨hi,hg⟩;dsimp only at hi hg ⊢;by_cases h5:i<p.c.length
 ·have hgx:=List.getElem?_eq_getElem h5;have hm:=List.getElem_mem h5;have hs:p.c[i].any (truB p xs bs)=true→∀ x∈p.c.take (i+1),x.any (truB p xs bs)=true:=all_take' (P:=fun x:List Int=>x.any (truB p xs bs)=true) h5 hg;have hn:=(hcl _ hm).1;have hkc:=hkn _ hm;generalize p.c[i]=x at hgx hs hm hn hkc;have hlx:(x.map zI).length=x.length:=List.length_map ..;clear hcl hkn;refine wa ?_;refine AC.loop (X:=Nat) (fun j=>⟨[(1,.d (.l (xs.map enQ))),(2,.d (enBs bs)),(3,.p 3 0),(9,.d (.v (.bool ((x.take j).any (truB p xs bs))))),(13,.d (.l (p.c.map enCl))),(14,.d (.v (.int .i64 (p.c.length:Int)))),(15,.d (.v (.int .i64 (i:Int)))),(19,.d (enZ x)),(20,.d (.v (.int .i64 (x.length:Int)))),(21,.d (.v (.int .i64 (j:Int))))],[(3,.box 42 ((enSPQ p).map .d))]⟩) (fun j=>j≤x.length) (fun j=>x.length-j) 0 (Nat.zero_le _) ⟨rfl,rfl,rfl,rfl,rfl,rfl,rfl,rfl,rfl,rfl,trivial⟩ ⟨rfl,trivial⟩ ?_;intro j hj;dsimp only at hj ⊢;by_cases h6:j<x.length
  ·have gx:=List.getElem?_eq_getElem h6;have ht:=htr _ (hkc _ (List.getElem_mem h6));have ha:(x.take (j+1)).any (truB p xs bs)=((x.take j).any (truB p xs bs)||truB p xs bs x[j]):=by
    rw[List.take_succ_eq_append_getElem h6,List.any_append];simp
   generalize x[j]=l at gx ht ha;clear htr;generalize (x.take j).any (truB p xs bs)=A at ha ⊢;generalize truB p xs bs l=B at ht ha ⊢;cases A with
   | true=>
     refine wa ?_;exact⟨j+1,h6,by omega,⟨rfl,rfl,rfl,by dsimp only;rw[ha];rfl,rfl,rfl,rfl,rfl,rfl,rfl,trivial⟩,⟨rfl,trivial⟩⟩
   | false=>
     refine wa ?_;exact⟨j+1,h6,by omega,⟨rfl,rfl,rfl,by dsimp only;rw[ha];rfl,rfl,rfl,rfl,rfl,rfl,rfl,trivial⟩,⟨rfl,trivial⟩⟩
  ·rw[List.take_of_length_le (by omega)];cases hA:x.any (truB p xs bs)with
   | true=>
     refine wa ?_;exact⟨i+1,⟨h5,hs hA⟩,by omega,⟨rfl,rfl,rfl,rfl,rfl,rfl,trivial⟩,⟨rfl,trivial⟩⟩
   | false=>
     obtain rfl:=hR0 ⟨x,hm,hA⟩;refine wa ?_;exact⟨.d rfl (.inl rfl),trivial⟩
 ·rw[List.take_of_length_le (by omega)]at hg;obtain rfl:=hR1 hg;refine wa ?_;exact⟨.d rfl (.inl rfl),trivial⟩
end Go.Proofs.YtbbpecfapohlaaaGreatDoor
