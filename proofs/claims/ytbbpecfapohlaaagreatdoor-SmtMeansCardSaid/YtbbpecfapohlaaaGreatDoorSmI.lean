import Derived.Test.YtbbpecfapohlaaaGreatDoorOpenM
namespace Go.Proofs.YtbbpecfapohlaaaGreatDoor
open Go.RowKit
attribute [local irreducible] AC Do St
set_option maxRecDepth 100000 in
set_option maxHeartbeats 4000000 in
theorem smtTruth(p:SP)(l:Int)(xs:List Rat)(bs:List Bool)(ha:∀ a∈p.a,OkAt a∧okOp a.op)(hn:p.a.length≤1000)(hk:knoL p.b p.a.length l)(hx:OkXs xs):Fn Tryz.prog 99 [.g (enSP p),.d (.v (.int .i64 l)),.d (.l (xs.map enR)),.d (enBs bs)] [.d (.v (.bool (truB p xs bs l)))]:=by
 obtain⟨hok,hkn⟩:=hk
 have m1:=max_sz hok
 obtain⟨l0,l1,l2⟩:=hok
 have w1:IntKind.i64.wrap (0-l)= -l:=by rw[Int.zero_sub];exact IntWalk.i64_in _ (by omega)
 obtain⟨z1,z2⟩:=szI_ok ⟨l0,l1,l2⟩
 have hlb:(bs.map bI).length=bs.length:=List.length_map ..
 have hla:(p.a.map enA).length=p.a.length:=List.length_map ..
 obtain⟨R,hR⟩:∃ R,truB p xs bs l=R:=⟨_,rfl⟩
 rw[hR]
 unfold truB at hR
 generalize szI l=z at m1 z1 z2 hR hkn
 by_cases h1:z-1<p.b
 ·rw[if_pos h1]at hR
  obtain⟨v,hv⟩:∃ v:Nat,z=(v:Int)+1:=⟨(z-1).toNat,by omega⟩
  rw[show (z-1).toNat=v by omega]at hR
  by_cases h2:v<bs.length
  ·have hg:=List.getElem?_eq_getElem h2
   rw[hg,Option.getD_some]at hR
   generalize bs[v]=t at hR hg
   by_cases hl:0<l
   ·rw[decide_eq_true hl]at hR
    cases t<;>(subst hR;refine Fn.of Tryz.func99 rfl (by kernel_rfl) Tryz.ntmps99 Tryz.results99 rfl fun w0 S0=>?_;refine wa ?_;((try (first | intro K ms hms hK | intro K hK));(first | apply Chain.go | apply Chain.goD);exact rfl;exact rfl;exact Loc.negM rfl rfl w1);refine wa ?_;((try (first | intro K ms hms hK | intro K hK));(first | apply Chain.go | apply Chain.goD);exact rfl;exact rfl;exact Loc.maxZ rfl rfl rfl m1);refine wa ?_;((try (first | intro K ms hms hK | intro K hK));(first | apply Chain.go | apply Chain.goD);exact rfl;exact rfl;exact Loc.idxM (i:=v) rfl rfl rfl (by omega) hg rfl);refine wa ?_;exact⟨.d rfl (.inl rfl),trivial⟩)
   ·rw[decide_eq_false hl]at hR
    cases t<;>(subst hR;refine Fn.of Tryz.func99 rfl (by kernel_rfl) Tryz.ntmps99 Tryz.results99 rfl fun w0 S0=>?_;refine wa ?_;((try (first | intro K ms hms hK | intro K hK));(first | apply Chain.go | apply Chain.goD);exact rfl;exact rfl;exact Loc.negM rfl rfl w1);refine wa ?_;((try (first | intro K ms hms hK | intro K hK));(first | apply Chain.go | apply Chain.goD);exact rfl;exact rfl;exact Loc.maxZ rfl rfl rfl m1);refine wa ?_;((try (first | intro K ms hms hK | intro K hK));(first | apply Chain.go | apply Chain.goD);exact rfl;exact rfl;exact Loc.idxM (i:=v) rfl rfl rfl (by omega) hg rfl);refine wa ?_;exact⟨.d rfl (.inl rfl),trivial⟩)
  ·rw[List.getElem?_eq_none (by omega),Option.getD_none]at hR
   by_cases hl:0<l
   ·rw[decide_eq_true hl]at hR
    subst hR;refine Fn.of Tryz.func99 rfl (by kernel_rfl) Tryz.ntmps99 Tryz.results99 rfl fun w0 S0=>?_;refine wa ?_;((try (first | intro K ms hms hK | intro K hK));(first | apply Chain.go | apply Chain.goD);exact rfl;exact rfl;exact Loc.negM rfl rfl w1);refine wa ?_;((try (first | intro K ms hms hK | intro K hK));(first | apply Chain.go | apply Chain.goD);exact rfl;exact rfl;exact Loc.maxZ rfl rfl rfl m1);refine wa ?_;exact⟨.d rfl (.inl rfl),trivial⟩
   ·rw[decide_eq_false hl]at hR
    subst hR;refine Fn.of Tryz.func99 rfl (by kernel_rfl) Tryz.ntmps99 Tryz.results99 rfl fun w0 S0=>?_;refine wa ?_;((try (first | intro K ms hms hK | intro K hK));(first | apply Chain.go | apply Chain.goD);exact rfl;exact rfl;exact Loc.negM rfl rfl w1);refine wa ?_;((try (first | intro K ms hms hK | intro K hK));(first | apply Chain.go | apply Chain.goD);exact rfl;exact rfl;exact Loc.maxZ rfl rfl rfl m1);refine wa ?_;exact⟨.d rfl (.inl rfl),trivial⟩
 ·rw[if_neg h1]at hR
  obtain⟨v,hv⟩:∃ v:Nat,z=(v:Int)+p.b+1:=⟨(z-p.b-1).toNat,by omega⟩
  rw[show (z-1-p.b).toNat=v by omega]at hR
  have h2:v<p.a.length:=by omega
  have hg:=List.getElem?_eq_getElem h2
  rw[hg]at hR
  obtain⟨ha1,ha2⟩:=ha _ (List.getElem_mem h2)
  generalize p.a[v]=x at hg hR ha1 ha2
  have hho:=holdsP x xs ha1.sm ha2 hx.b (by omega) (by omega)
  have hR':decide (atP x xs=decide (0<l))=R:=hR
  clear hR
  generalize atP x xs=t at hR' hho
  have hR:=hR'
  clear hR'
  by_cases hl:0<l
  ·rw[decide_eq_true hl]at hR
   cases t<;>(subst hR;refine Fn.of Tryz.func99 rfl (by kernel_rfl) Tryz.ntmps99 Tryz.results99 rfl fun w0 S0=>?_;refine wa ?_;((try (first | intro K ms hms hK | intro K hK));(first | apply Chain.go | apply Chain.goD);exact rfl;exact rfl;exact Loc.negM rfl rfl w1);refine wa ?_;((try (first | intro K ms hms hK | intro K hK));(first | apply Chain.go | apply Chain.goD);exact rfl;exact rfl;exact Loc.maxZ rfl rfl rfl m1);refine wa ?_;((try (first | intro K ms hms hK | intro K hK));(first | apply Chain.go | apply Chain.goD);exact rfl;exact rfl;exact Loc.idxM (i:=v) rfl rfl rfl (by omega) hg rfl);refine wa ?_;exact⟨.d rfl (.inl rfl),trivial⟩)
  ·rw[decide_eq_false hl]at hR
   cases t<;>(subst hR;refine Fn.of Tryz.func99 rfl (by kernel_rfl) Tryz.ntmps99 Tryz.results99 rfl fun w0 S0=>?_;refine wa ?_;((try (first | intro K ms hms hK | intro K hK));(first | apply Chain.go | apply Chain.goD);exact rfl;exact rfl;exact Loc.negM rfl rfl w1);refine wa ?_;((try (first | intro K ms hms hK | intro K hK));(first | apply Chain.go | apply Chain.goD);exact rfl;exact rfl;exact Loc.maxZ rfl rfl rfl m1);refine wa ?_;((try (first | intro K ms hms hK | intro K hK));(first | apply Chain.go | apply Chain.goD);exact rfl;exact rfl;exact Loc.idxM (i:=v) rfl rfl rfl (by omega) hg rfl);refine wa ?_;exact⟨.d rfl (.inl rfl),trivial⟩)
set_option maxRecDepth 100000 in
set_option maxHeartbeats 4000000 in
theorem true14(p:SP)(l:Int)(xs:List Rat)(bs:List Bool)(ha:∀ a∈p.a,OkAt a)(hn:p.a.length≤1000)(hk:knoL p.b p.a.length l)(hx:OkXs xs):Fn Tryz.prog 73 [.g (enSPQ p),.d (.v (.int .i64 l)),.d (.l (xs.map enQ)),.d (enBs bs)] [.d (.v (.bool (truB p xs bs l)))]:=by
 obtain⟨hok,hkn⟩:=hk
 have m1:=max_sz hok
 obtain⟨l0,l1,l2⟩:=hok
 have w1:IntKind.i64.wrap (0-l)= -l:=by rw[Int.zero_sub];exact IntWalk.i64_in _ (by omega)
 obtain⟨z1,z2⟩:=szI_ok ⟨l0,l1,l2⟩
 have hlb:(bs.map bI).length=bs.length:=List.length_map ..
 have hla:(p.a.map enAQ).length=p.a.length:=List.length_map ..
 obtain⟨R,hR⟩:∃ R,truB p xs bs l=R:=⟨_,rfl⟩
 rw[hR]
 unfold truB at hR
 generalize szI l=z at m1 z1 z2 hR hkn
 by_cases h1:z-1<p.b
 ·rw[if_pos h1]at hR
  obtain⟨v,hv⟩:∃ v:Nat,z=(v:Int)+1:=⟨(z-1).toNat,by omega⟩
  rw[show (z-1).toNat=v by omega]at hR
  by_cases h2:v<bs.length
  ·have hg:=List.getElem?_eq_getElem h2
   rw[hg,Option.getD_some]at hR
   generalize bs[v]=t at hR hg
   by_cases hl:0<l
   ·rw[decide_eq_true hl]at hR
    cases t<;>(subst hR;refine Fn.of Tryz.func73 rfl (by kernel_rfl) Tryz.ntmps73 Tryz.results73 rfl fun w0 S0=>?_;refine wa ?_;((try (first | intro K ms hms hK | intro K hK));(first | apply Chain.go | apply Chain.goD);exact rfl;exact rfl;exact Loc.negM rfl rfl w1);refine wa ?_;((try (first | intro K ms hms hK | intro K hK));(first | apply Chain.go | apply Chain.goD);exact rfl;exact rfl;exact Loc.maxZ rfl rfl rfl m1);refine wa ?_;((try (first | intro K ms hms hK | intro K hK));(first | apply Chain.go | apply Chain.goD);exact rfl;exact rfl;exact Loc.idxM (i:=v) rfl rfl rfl (by omega) hg rfl);refine wa ?_;exact⟨.d rfl (.inl rfl),trivial⟩)
   ·rw[decide_eq_false hl]at hR
    cases t<;>(subst hR;refine Fn.of Tryz.func73 rfl (by kernel_rfl) Tryz.ntmps73 Tryz.results73 rfl fun w0 S0=>?_;refine wa ?_;((try (first | intro K ms hms hK | intro K hK));(first | apply Chain.go | apply Chain.goD);exact rfl;exact rfl;exact Loc.negM rfl rfl w1);refine wa ?_;((try (first | intro K ms hms hK | intro K hK));(first | apply Chain.go | apply Chain.goD);exact rfl;exact rfl;exact Loc.maxZ rfl rfl rfl m1);refine wa ?_;((try (first | intro K ms hms hK | intro K hK));(first | apply Chain.go | apply Chain.goD);exact rfl;exact rfl;exact Loc.idxM (i:=v) rfl rfl rfl (by omega) hg rfl);refine wa ?_;exact⟨.d rfl (.inl rfl),trivial⟩)
  ·rw[List.getElem?_eq_none (by omega),Option.getD_none]at hR
   by_cases hl:0<l
   ·rw[decide_eq_true hl]at hR
    subst hR;refine Fn.of Tryz.func73 rfl (by kernel_rfl) Tryz.ntmps73 Tryz.results73 rfl fun w0 S0=>?_;refine wa ?_;((try (first | intro K ms hms hK | intro K hK));(first | apply Chain.go | apply Chain.goD);exact rfl;exact rfl;exact Loc.negM rfl rfl w1);refine wa ?_;((try (first | intro K ms hms hK | intro K hK));(first | apply Chain.go | apply Chain.goD);exact rfl;exact rfl;exact Loc.maxZ rfl rfl rfl m1);refine wa ?_;exact⟨.d rfl (.inl rfl),trivial⟩
   ·rw[decide_eq_false hl]at hR
    subst hR;refine Fn.of Tryz.func73 rfl (by kernel_rfl) Tryz.ntmps73 Tryz.results73 rfl fun w0 S0=>?_;refine wa ?_;((try (first | intro K ms hms hK | intro K hK));(first | apply Chain.go | apply Chain.goD);exact rfl;exact rfl;exact Loc.negM rfl rfl w1);refine wa ?_;((try (first | intro K ms hms hK | intro K hK));(first | apply Chain.go | apply Chain.goD);exact rfl;exact rfl;exact Loc.maxZ rfl rfl rfl m1);refine wa ?_;exact⟨.d rfl (.inl rfl),trivial⟩
 ·rw[if_neg h1]at hR
  obtain⟨v,hv⟩:∃ v:Nat,z=(v:Int)+p.b+1:=⟨(z-p.b-1).toNat,by omega⟩
  rw[show (z-1-p.b).toNat=v by omega]at hR
  have h2:v<p.a.length:=by omega
  have hg:=List.getElem?_eq_getElem h2
  rw[hg]at hR
  have ha1:=ha _ (List.getElem_mem h2)
  generalize p.a[v]=x at hg hR ha1
  have hev:=evalP x.e xs ha1.sm hx.b hx.n (by omega)
  have hsy:=saysQ x.op (x.e.c+evalT xs x.e.t)
  have hR':decide (atP x xs=decide (0<l))=R:=hR
  clear hR
  have hat:atP x xs=sayB x.op (x.e.c+evalT xs x.e.t):=rfl
  rw[hat]at hR'
  generalize x.e.c+evalT xs x.e.t=ev at hev hsy hR'
  generalize sayB x.op ev=t at hR' hsy
  have hR:=hR'
  clear hR'
  by_cases hl:0<l
  ·rw[decide_eq_true hl]at hR
   cases t<;>(subst hR;refine Fn.of Tryz.func73 rfl (by kernel_rfl) Tryz.ntmps73 Tryz.results73 rfl fun w0 S0=>?_;refine wa ?_;((try (first | intro K ms hms hK | intro K hK));(first | apply Chain.go | apply Chain.goD);exact rfl;exact rfl;exact Loc.negM rfl rfl w1);refine wa ?_;((try (first | intro K ms hms hK | intro K hK));(first | apply Chain.go | apply Chain.goD);exact rfl;exact rfl;exact Loc.maxZ rfl rfl rfl m1);refine wa ?_;((try (first | intro K ms hms hK | intro K hK));(first | apply Chain.go | apply Chain.goD);exact rfl;exact rfl;exact Loc.idxM (i:=v) rfl rfl rfl (by omega) hg rfl);refine wa ?_;exact⟨.d rfl (.inl rfl),trivial⟩)
  ·rw[decide_eq_false hl]at hR
   cases t<;>(subst hR;refine Fn.of Tryz.func73 rfl (by kernel_rfl) Tryz.ntmps73 Tryz.results73 rfl fun w0 S0=>?_;refine wa ?_;((try (first | intro K ms hms hK | intro K hK));(first | apply Chain.go | apply Chain.goD);exact rfl;exact rfl;exact Loc.negM rfl rfl w1);refine wa ?_;((try (first | intro K ms hms hK | intro K hK));(first | apply Chain.go | apply Chain.goD);exact rfl;exact rfl;exact Loc.maxZ rfl rfl rfl m1);refine wa ?_;((try (first | intro K ms hms hK | intro K hK));(first | apply Chain.go | apply Chain.goD);exact rfl;exact rfl;exact Loc.idxM (i:=v) rfl rfl rfl (by omega) hg rfl);refine wa ?_;exact⟨.d rfl (.inl rfl),trivial⟩)
end Go.Proofs.YtbbpecfapohlaaaGreatDoor
