import Derived.SizedLaws
import Derived.JoinedOf
import Derived.Test.YtbbpecfapohlaaaGreatDoorLst
import Derived.Test.YtbbpecfapohlaaaGreatDoorSmB
import Derived.Test.YtbbpecfapohlaaaGreatDoorSmF
import Derived.Test.YtbbpecfapohlaaaGreatDoorTab
import Derived.Test.YtbbpecfapohlaaaGreatDoorChecked
import Derived.Test.YtbbpecfapohlaaaGreatDoorLaw
set_option maxRecDepth 100000
set_option maxHeartbeats 8000000
namespace Go.Proofs.YtbbpecfapohlaaaGreatDoor
open Go.RowKit
attribute [local irreducible] AC Do St
theorem told14(p:SP)(hp:OkSP p):Fn Tryz.prog 21 [.g (enSP p)] [.g (enSPQ p)]:=by
 have han:=hp.an;have hcn:=hp.cn;have hcl:=hp.cl;have hlc:(p.c.map enCl).length=p.c.length:=List.length_map ..;have hli:=list09 p.a (k:=6682) (by omega) (fun a ha=>⟨(hp.a a ha).sm.c,(hp.a a ha).sm.t,by have:=(hp.a a ha).sm.n;omega⟩) (by omega);clear hp;refine Fn.of Tryz.func21 rfl (by kernel_rfl) Tryz.ntmps21 Tryz.results21 rfl fun w0 S0=>?_;refine wa ?_;refine AC.rowBox 3 3 30 55 1 rfl rfl rfl ?_;refine AC.loop (X:=Nat) (fun i=>⟨[(1,.p 1 0),(2,.p 2 0),(3,.p 3 0),(15,.d (.l (p.c.map enCl))),(16,.d (.v (.int .i64 (p.c.length:Int)))),(17,.d (.v (.int .i64 (i:Int))))],[(2,.box 42 [.d (.v (.int .i64 0)),.d (.v (.int .i64 0)),.d .n,.d .n]),(3,.box 42 [.d (.v (.int .i64 p.r)),.d (.v (.int .i64 p.b)),.d (.l (p.a.map enAQ)),.r 30 i]),(30,.row i 55 1 ((p.c.take i).map enCl))]⟩) (fun i=>i≤p.c.length) (fun i=>p.c.length-i) 0 (Nat.zero_le _) ⟨rfl,rfl,rfl,rfl,rfl,rfl,trivial⟩ ⟨rfl,rfl,rfl,trivial⟩ ?_;intro i hi;dsimp only at hi ⊢;by_cases h1:i<p.c.length
 ·have hx:=List.getElem?_eq_getElem h1;have hn:=(hcl _ (List.getElem_mem h1)).1;have hts:(p.c.take (i+1)).map enCl=(p.c.take i).map enCl++[enCl p.c[i]]:=by
   rw[List.take_succ_eq_append_getElem h1,List.map_append];rfl
  have hml:((p.c.take i).map enCl).length=i:=by simp;omega
  generalize p.c[i]=x at hx hts hn;have hlx:(x.map zI).length=x.length:=List.length_map ..;refine wa ?_;((try (first | intro K ms hms hK | intro K hK));(first | apply Chain.ef | apply Chain.efD);exact rfl;exact rfl;exact Do.appendF rfl rfl rfl rfl rfl (zI_len1 x) (by simp;omega);exact rfl;exact rfl);refine wa ?_;exact⟨i+1,h1,by omega,⟨rfl,rfl,rfl,rfl,rfl,rfl,trivial⟩,⟨rfl,rfl,by rw[hts];rfl,trivial⟩⟩
 ·rw[List.take_of_length_le (by omega)];refine wk ?_;(first | intro K ms hms hK | intro K hK | skip);refine Chain.frzBox 3 3 rfl rfl rfl ?_;refine wk ?_;exact⟨.cn rfl rfl inferInstance rfl ⟨.inl rfl,.inl rfl,.inl rfl,.inl rfl,trivial⟩,trivial⟩
structure OkXs(xs:List Rat):Prop where
 b:∀ q∈xs,Bd 6682 q
 n:xs.length≤6
abbrev bI(b:Bool):List D:=[.v (.bool b)]
abbrev enBs(bs:List Bool):D:= .l (bs.map bI)
end Go.Proofs.YtbbpecfapohlaaaGreatDoor
namespace Go.Proofs.YtbbpecfapohlaaaGreatDoor
open Go.RowKit Go.ChangeShapes Go.WideShapes
section
variable {H:Type}{enc:TypeId×Value→H}{P:Program}{W:World}
end
section
variable {H:Type}{enc:TypeId×Value→H}{W:World}
theorem odIs(m:Nat):OD enc Tryz.prog W m 55 (QList (QOf (fun v:Int=>[D.v (.int .i64 v)]) inR)):=by
 cases m with
 | zero=>intro n hn;omega
 | succ m=>exact OD.slice (by kernel_rfl) (k:=0) (by kernel_rfl) ((odI m).imp fun ds ⟨x,e,h1,h2⟩=>⟨x,e,⟨h1,by unfold IntKind.max at h2;simp[IntKind.signed,IntKind.bits]at h2;omega⟩⟩)
theorem odCls(m:Nat):OD enc Tryz.prog W m 23 (QList (QOf enCl fun c=>∀ l∈c,inR l)):=by
 cases m with
 | zero=>intro n hn;omega
 | succ m=>exact OD.slice (by kernel_rfl) (k:=0) (by kernel_rfl) ((odIs m).imp fun ds h=>by
    obtain⟨l,e,hl,_⟩:=QList.of (fun _ h=>h) h;exact⟨l,e,hl⟩)
theorem odBs(m:Nat):OD enc Tryz.prog W m 49 (QList (QOf bI fun _=>True)):=by
 cases m with
 | zero=>intro n hn;omega
 | succ m=>exact OD.slice (e:=4) (by kernel_rfl) (k:=0) (by kernel_rfl) ((OD.bool (t:=4) (by kernel_rfl) m).imp fun ds ⟨b,e⟩=>⟨b,e,trivial⟩)
theorem odPN(m:Nat):OD enc Tryz.prog W m 25 (QOf enPN okPN):=by
 rcases m with _ | _ | m
 ·intro n hn;omega
 ·intro n hn cs d ps h;obtain rfl:n=0:=by omega
  simp[DataW.trod]at h
 ·refine(OD.fields (l:=[(3,0),(3,1),(22,2),(23,3)]) (Qs:=[QInt .i64,QInt .i64,QList (QOf enAN fun a=>okEN a.e∧ -9223372036854775808≤a.op∧a.op≤9223372036854775807),QList (QOf enCl fun c=>∀ l∈c,inR l)]) (by kernel_rfl) (by kernel_rfl)
   ⟨odI _,odI _,OD.slice (by kernel_rfl) (k:=4) (by kernel_rfl) (odA m),odCls (m+1),trivial⟩).imp fun ds h=>?_
  obtain⟨a,r1,rfl,⟨x,rfl,x1,x2⟩,b,r2,rfl,⟨y,rfl,y1,y2⟩,c,r3,rfl,hc,d,r4,rfl,hd,rfl⟩:=h;obtain⟨l,rfl,hl,hln⟩:=QList.of (fun _ h=>h) hc;obtain⟨g,rfl,hg,hgn⟩:=QList.of (fun _ h=>h) hd;refine⟨⟨x,y,l,g⟩,rfl,fun a ha=>(hl a ha).1,hln,hgn,hg,⟨x1,?_⟩,⟨y1,?_⟩⟩
  ·unfold IntKind.max at x2;simp[IntKind.signed,IntKind.bits]at x2;show x<_;omega
  ·unfold IntKind.max at y2;simp[IntKind.signed,IntKind.bits]at y2;show y<_;omega
end
end Go.Proofs.YtbbpecfapohlaaaGreatDoor
namespace Go.Proofs.YtbbpecfapohlaaaGreatDoor
open Go.RowKit Go.ChangeShapes Go.WideShapes Go.ChangeAt
theorem pf_own:ownKnob Tryz.prog.godebug=none:=by kernel_rfl
theorem pf_laid:laidOutB Tryz.prog=true:=by kernel_rfl
theorem pf_maps:mapsRowed Tryz.prog=true:=by kernel_rfl
theorem pf_heard:(Tryz.prog).stopsHeard=true:=by kernel_rfl
theorem pf_enter:(Tryz.prog).mayEnter=true:=by kernel_rfl
end Go.Proofs.YtbbpecfapohlaaaGreatDoor
namespace Go.Proofs.YtbbpecfapohlaaaGreatDoor
open Go.RowKit
attribute [local irreducible] AC Do St
noncomputable def oppP (p:SP)(l:Int):Option At:=
 if l=0∨l= -9223372036854775808∨szI l≤p.b then none else match p.a[(szI l-1-p.b).toNat]? with
 | none=>none
 | some a=>if l<0 then some a else if a.op=1 then some ⟨scaleE (-1) a.e,2⟩else if a.op=2 then some ⟨scaleE (-1) a.e,1⟩else none
noncomputable def oppR (p:SP)(l:Int):List DV:=match oppP p l with
 | some a=>[.g (enA a),.d (.v (.bool true))]
 | none=>[.g zeroA,.d (.v (.bool false))]
theorem oppositeF(p:SP)(l:Int)(hr:inR l)(hb:0≤p.b)(hb1:p.b≤1000)(hn:p.a.length≤1000)(ha:∀ a∈p.a,OkAt a∧okOp a.op):Fn Tryz.prog 120 [.g (enSP p),.d (.v (.int .i64 l))] (oppR p l):=by
 have hla:(p.a.map enA).length=p.a.length:=List.length_map ..;obtain⟨R,hR⟩:∃ R,oppR p l=R:=⟨_,rfl⟩
 have hR0:oppP p l=none→R=[.g zeroA,.d (.v (.bool false))]:=fun h=>by rw[←hR];unfold oppR;rw[h]
 have hR1:∀ a,oppP p l=some a→R=[.g (enA a),.d (.v (.bool true))]:=fun a h=>by rw[←hR];unfold oppR;rw[h]
 rw[hR];clear hR;by_cases h0:l=0
 ·obtain rfl:=hR0 (by unfold oppP;rw[if_pos (.inl h0)]);refine Fn.of Tryz.func120 rfl (by kernel_rfl) Tryz.ntmps120 Tryz.results120 rfl fun w0 S0=>?_;refine wa ?_;exact⟨.cn rfl rfl inferInstance rfl ⟨.inr rfl,.inl rfl,.inr rfl,.inr rfl,.inl rfl,trivial⟩,.d rfl (.inl rfl),trivial⟩
 by_cases h1:l= -9223372036854775808
 ·obtain rfl:=hR0 (by unfold oppP;rw[if_pos (.inr (.inl h1))]);refine Fn.of Tryz.func120 rfl (by kernel_rfl) Tryz.ntmps120 Tryz.results120 rfl fun w0 S0=>?_;refine wa ?_;exact⟨.cn rfl rfl inferInstance rfl ⟨.inr rfl,.inl rfl,.inr rfl,.inr rfl,.inl rfl,trivial⟩,.d rfl (.inl rfl),trivial⟩
 have hok:okLi l:=⟨h0,by have:=hr.1;omega,hr.2⟩
 have m1:=max_sz hok;have w1:IntKind.i64.wrap (0-l)= -l:=by rw[Int.zero_sub];exact IntWalk.i64_in _ (by have:=hok.2;omega)
 obtain⟨z1,z2⟩:=szI_ok hok;by_cases h2:szI l≤p.b
 ·obtain rfl:=hR0 (by unfold oppP;rw[if_pos (.inr (.inr h2))]);generalize szI l=z at m1 z1 z2 h2;refine Fn.of Tryz.func120 rfl (by kernel_rfl) Tryz.ntmps120 Tryz.results120 rfl fun w0 S0=>?_;refine wa ?_;((try (first | intro K ms hms hK | intro K hK));(first | apply Chain.go | apply Chain.goD);exact rfl;exact rfl;exact Loc.negM rfl rfl w1);refine wa ?_;((try (first | intro K ms hms hK | intro K hK));(first | apply Chain.go | apply Chain.goD);exact rfl;exact rfl;exact Loc.maxZ rfl rfl rfl m1);refine wa ?_;exact⟨.cn rfl rfl inferInstance rfl ⟨.inr rfl,.inl rfl,.inr rfl,.inr rfl,.inl rfl,trivial⟩,.d rfl (.inl rfl),trivial⟩
 obtain⟨v,hv⟩:∃ v:Nat,szI l=(v:Int)+p.b+1:=⟨(szI l-p.b-1).toNat,by omega⟩
 have hop:oppP p l=match p.a[v]? with
  | none=>none
  | some a=>if l<0 then some a else if a.op=1 then some ⟨scaleE (-1) a.e,2⟩else if a.op=2 then some ⟨scaleE (-1) a.e,1⟩else none:=by
  unfold oppP;rw[if_neg (by rintro (h | h | h)<;>omega),show (szI l-1-p.b).toNat=v by omega]
 generalize szI l=z at m1 z1 z2 h2 hv;by_cases h3:v<p.a.length
 ·have gx:=List.getElem?_eq_getElem h3;obtain⟨ho,hoo⟩:=ha _ (List.getElem_mem h3);rw[gx]at hop;generalize p.a[v]=x at gx ho hoo hop;dsimp only at hop;by_cases h4:l<0
  ·rw[if_pos h4]at hop;obtain rfl:=hR1 x hop;refine Fn.of Tryz.func120 rfl (by kernel_rfl) Tryz.ntmps120 Tryz.results120 rfl fun w0 S0=>?_;refine wa ?_;((try (first | intro K ms hms hK | intro K hK));(first | apply Chain.go | apply Chain.goD);exact rfl;exact rfl;exact Loc.negM rfl rfl w1);refine wa ?_;((try (first | intro K ms hms hK | intro K hK));(first | apply Chain.go | apply Chain.goD);exact rfl;exact rfl;exact Loc.maxZ rfl rfl rfl m1);refine wa ?_;((try (first | intro K ms hms hK | intro K hK));(first | apply Chain.go | apply Chain.goD);exact rfl;exact rfl;exact Loc.idxM (i:=v) rfl rfl rfl (by omega) gx rfl);refine wa ?_;exact⟨.cn rfl rfl inferInstance rfl ⟨.inl rfl,.inl rfl,.inl rfl,.inl rfl,.inl rfl,trivial⟩,.d rfl (.inl rfl),trivial⟩
  ·rw[if_neg h4]at hop;have hnot:=notF x 6682 hoo ho.sm.c ho.sm.t (by have:=ho.sm.n;omega);rcases okOp_cases hoo with e | e | e
   ·rw[if_pos e]at hop;have en:notL x=[⟨scaleE (-1) x.e,2⟩]:=by unfold notL;rw[if_pos e]
    rw[en]at hnot;obtain rfl:=hR1 _ hop;generalize (⟨scaleE (-1) x.e,2⟩:At)=y at hnot ⊢;have h0':[enA y][0]?=some (enA y):=rfl;have hl1:[y].length=1:=rfl;have hl2:[enA y].length=1:=rfl;refine Fn.of Tryz.func120 rfl (by kernel_rfl) Tryz.ntmps120 Tryz.results120 rfl fun w0 S0=>?_;refine wa ?_;((try (first | intro K ms hms hK | intro K hK));(first | apply Chain.go | apply Chain.goD);exact rfl;exact rfl;exact Loc.negM rfl rfl w1);refine wa ?_;((try (first | intro K ms hms hK | intro K hK));(first | apply Chain.go | apply Chain.goD);exact rfl;exact rfl;exact Loc.maxZ rfl rfl rfl m1);refine wa ?_;((try (first | intro K ms hms hK | intro K hK));(first | apply Chain.go | apply Chain.goD);exact rfl;exact rfl;exact Loc.idxM (i:=v) rfl rfl rfl (by omega) gx rfl);refine wa ?_;((try (first | intro K ms hms hK | intro K hK));(first | apply Chain.go | apply Chain.goD);exact rfl;exact rfl;exact Loc.idx (i:=0) rfl rfl rfl rfl h0' rfl);refine wa ?_;exact⟨.cn rfl rfl inferInstance rfl ⟨.inl rfl,.inl rfl,.inl rfl,.inl rfl,.inl rfl,trivial⟩,.d rfl (.inl rfl),trivial⟩
   ·rw[if_neg (by omega),if_pos e]at hop;have en:notL x=[⟨scaleE (-1) x.e,1⟩]:=by unfold notL;rw[if_neg (by omega),if_pos e]
    rw[en]at hnot;obtain rfl:=hR1 _ hop;generalize (⟨scaleE (-1) x.e,1⟩:At)=y at hnot ⊢;have h0':[enA y][0]?=some (enA y):=rfl;have hl1:[y].length=1:=rfl;have hl2:[enA y].length=1:=rfl;refine Fn.of Tryz.func120 rfl (by kernel_rfl) Tryz.ntmps120 Tryz.results120 rfl fun w0 S0=>?_;refine wa ?_;((try (first | intro K ms hms hK | intro K hK));(first | apply Chain.go | apply Chain.goD);exact rfl;exact rfl;exact Loc.negM rfl rfl w1);refine wa ?_;((try (first | intro K ms hms hK | intro K hK));(first | apply Chain.go | apply Chain.goD);exact rfl;exact rfl;exact Loc.maxZ rfl rfl rfl m1);refine wa ?_;((try (first | intro K ms hms hK | intro K hK));(first | apply Chain.go | apply Chain.goD);exact rfl;exact rfl;exact Loc.idxM (i:=v) rfl rfl rfl (by omega) gx rfl);refine wa ?_;((try (first | intro K ms hms hK | intro K hK));(first | apply Chain.go | apply Chain.goD);exact rfl;exact rfl;exact Loc.idx (i:=0) rfl rfl rfl rfl h0' rfl);refine wa ?_;exact⟨.cn rfl rfl inferInstance rfl ⟨.inl rfl,.inl rfl,.inl rfl,.inl rfl,.inl rfl,trivial⟩,.d rfl (.inl rfl),trivial⟩
   ·rw[if_neg (by omega),if_neg (by omega)]at hop;obtain rfl:=hR0 hop;have en:(notL x).length=2:=by unfold notL;rw[if_neg (by omega),if_neg (by omega)];rfl
    have en2:((notL x).map enA).length=2:=by rw[List.length_map];exact en
    generalize (notL x).map enA=Y at hnot en2;refine Fn.of Tryz.func120 rfl (by kernel_rfl) Tryz.ntmps120 Tryz.results120 rfl fun w0 S0=>?_;refine wa ?_;((try (first | intro K ms hms hK | intro K hK));(first | apply Chain.go | apply Chain.goD);exact rfl;exact rfl;exact Loc.negM rfl rfl w1);refine wa ?_;((try (first | intro K ms hms hK | intro K hK));(first | apply Chain.go | apply Chain.goD);exact rfl;exact rfl;exact Loc.maxZ rfl rfl rfl m1);refine wa ?_;((try (first | intro K ms hms hK | intro K hK));(first | apply Chain.go | apply Chain.goD);exact rfl;exact rfl;exact Loc.idxM (i:=v) rfl rfl rfl (by omega) gx rfl);refine wa ?_;exact⟨.cn rfl rfl inferInstance rfl ⟨.inr rfl,.inl rfl,.inr rfl,.inr rfl,.inl rfl,trivial⟩,.d rfl (.inl rfl),trivial⟩
 ·rw[List.getElem?_eq_none (by omega)]at hop;obtain rfl:=hR0 hop;refine Fn.of Tryz.func120 rfl (by kernel_rfl) Tryz.ntmps120 Tryz.results120 rfl fun w0 S0=>?_;refine wa ?_;((try (first | intro K ms hms hK | intro K hK));(first | apply Chain.go | apply Chain.goD);exact rfl;exact rfl;exact Loc.negM rfl rfl w1);refine wa ?_;((try (first | intro K ms hms hK | intro K hK));(first | apply Chain.go | apply Chain.goD);exact rfl;exact rfl;exact Loc.maxZ rfl rfl rfl m1);refine wa ?_;exact⟨.cn rfl rfl inferInstance rfl ⟨.inr rfl,.inl rfl,.inr rfl,.inr rfl,.inl rfl,trivial⟩,.d rfl (.inl rfl),trivial⟩
end Go.Proofs.YtbbpecfapohlaaaGreatDoor
