import Derived.Test.YtbbpecfapohlaaaGreatDoorReA
import Derived.Test.YtbbpecfapohlaaaGreatDoorLst
set_option maxRecDepth 100000
set_option maxHeartbeats 8000000
namespace Go.Proofs.YtbbpecfapohlaaaGreatDoor
open Go.RowKit
attribute [local irreducible] AC Do St
def chaI(now:List Int):List (List Int)→Option (List Int)
 | []=>some now
 | c::cs=>match resI now c with
   | some (x,_)=>chaI x cs
   | none=>none
structure CanK(n:Nat)(c:List Int):Prop where
 ok:∀ l∈c,okLi l
 can:canI c=c
 n:c.length≤n
theorem resI_can{m n:Nat}{a b x:List Int}{on:Int}(ha:CanK m a)(hb:CanK n b)(h:resI a b=some (x,on)):CanK (m+n) x:=by
 unfold resI at h;split at h
 ·rename_i o e;simp only[Option.some.injEq,Prod.mk.injEq]at h;obtain⟨rfl,rfl⟩:=h;refine⟨fun l hl=>?_,canI_can _,Nat.le_trans (canI_len _) ?_⟩
  ·rcases List.mem_append.1 ((canI_mem _ _).1 hl)with h | h
   ·exact ha.ok l (List.mem_filter.1 h).1
   ·exact hb.ok l (List.mem_filter.1 h).1
  ·rw[List.length_append];have:=List.length_filter_le (fun l=>decide (l≠o)) a;have:=List.length_filter_le (fun l=>decide (l≠ -o)) b;have:=ha.n;have:=hb.n;omega
 ·cases h
def chaR(c:List Int)(cs:List (List Int)):List DV:=match chaI c cs with
 | some x=>[.d (enZ x),.d (.v (.int .i64 0))]
 | none=>[.d (.l []),.d (.v (.int .i64 6))]
theorem chainF(c:List Int)(cs:List (List Int))(hc:CanK 100 c)(hcs:∀ x∈cs,CanK 100 x)(hl:cs.length≤60):Fn Tryz.prog 122 [.d (.l ((c::cs).map enCl))] (chaR c cs):=by
 have hcan:∀ x∈c::cs,Fn Tryz.prog 103 [.d (enZ x)] [.d (enZ x),.d (.v (.int .i64 0))]:=fun x hx=>by
  have hk:CanK 100 x:=by
   rcases List.mem_cons.1 hx with rfl | h
   ·exact hc
   ·exact hcs x h
  have:=canonC x (fun l h=>(hk.ok l h).inR) (by have:=hk.n;omega);rwa[canC_yes hk.ok,hk.can]at this
 have hll:((c::cs).map enCl).length=cs.length+1:=by simp
 have hl2:(cs.map enCl).length=cs.length:=List.length_map ..;obtain⟨T,hT⟩:∃ T,c::cs=T:=⟨_,rfl⟩
 have hTl:T.length=cs.length+1:=by rw[←hT];rfl
 have hT0:T[0]?=some c:=by rw[←hT];rfl
 have hc0:=hcan c (by simp);have hTd:T.drop 1=cs:=by rw[←hT];rfl
 rw[hT]at hcan hll ⊢;refine Fn.of Tryz.func122 rfl (by kernel_rfl) Tryz.ntmps122 Tryz.results122 rfl fun w0 S0=>?_;refine wa ?_;refine AC.loop (X:=Nat) (fun i=>⟨[(0,.d (.l (T.map enCl))),(18,.d (.l (T.map enCl))),(19,.d (.v (.int .i64 (T.length:Int)))),(20,.d (.v (.int .i64 (i:Int))))],[]⟩) (fun i=>i≤T.length) (fun i=>T.length-i) 0 (Nat.zero_le _) ⟨rfl,rfl,rfl,rfl,trivial⟩ trivial ?_;intro i hi;dsimp only at hi ⊢;by_cases h1:i<T.length
 ·have gx:=List.getElem?_eq_getElem h1;have gc:=hcan _ (List.getElem_mem h1);generalize T[i]=x at gx gc;clear hcan hc0;refine wa ?_;exact⟨i+1,h1,by omega,⟨rfl,rfl,rfl,rfl,trivial⟩,trivial⟩
 ·clear hcan;refine wa ?_;have hone:∀ x∈T.map enCl,x.length=1:=fun x hx=>by
   obtain⟨u,_,rfl⟩:=List.mem_map.1 hx;rfl
  have hdr:(T.map enCl).drop 1=cs.map enCl:=by rw[←List.map_drop,hTd]
  ((try (first | intro K ms hms hK | intro K hK));(first | apply Chain.go | apply Chain.goD);exact rfl;exact rfl;exact Loc.tailL 1 rfl rfl rfl rfl (by omega) hone);rw[hdr];refine wa ?_;obtain⟨R,hR⟩:∃ R,chaR c cs=R:=⟨_,rfl⟩
  rw[hR];have hRe:chaI c cs=none→R=[.d (.l []),.d (.v (.int .i64 6))]:=fun h=>by rw[←hR];unfold chaR;rw[h]
  have hRs:∀ x,chaI c cs=some x→R=[.d (enZ x),.d (.v (.int .i64 0))]:=fun x h=>by rw[←hR];unfold chaR;rw[h]
  clear hR hc0 hT0 hdr hone;refine AC.loop (X:=Nat×List Int) (fun x=>⟨[(8,.d (enZ x.2)),(41,.d (.l (cs.map enCl))),(42,.d (.v (.int .i64 (cs.length:Int)))),(43,.d (.v (.int .i64 (x.1:Int))))],[]⟩) (fun x=>x.1≤cs.length∧CanK (100*(x.1+1)) x.2∧chaI c cs=chaI x.2 (cs.drop x.1)) (fun x=>cs.length-x.1) (0,c) ⟨Nat.zero_le _,hc,rfl⟩ ⟨rfl,rfl,rfl,rfl,trivial⟩ trivial ?_;intro ⟨j,now⟩ ⟨hj,hn,he⟩;dsimp only at hj hn he ⊢;by_cases h2:j<cs.length
  ·have gx:=List.getElem?_eq_getElem h2;have gk:=hcs _ (List.getElem_mem h2);have gd:cs.drop j=cs[j]::cs.drop (j+1):=List.drop_eq_getElem_cons h2;rw[gd]at he;generalize cs[j]=x at gx gk he;have hre:=resolveF now x hn.ok gk.ok hn.can gk.can (by have:=hn.n;omega) (by have:=gk.n;omega);unfold rslR at hre;cases hr:resI now x with
   | none=>
     rw[hr]at hre;obtain rfl:=hRe (by rw[he];unfold chaI;rw[hr]);refine wa ?_;exact⟨.d rfl (.inr rfl),.d rfl (.inl rfl),trivial⟩
   | some y=>
     obtain⟨y,on⟩:=y;rw[hr]at hre;dsimp only at hre;have hk:=resI_can hn gk hr;refine wa ?_;exact⟨(j+1,y),⟨h2,⟨hk.ok,hk.can,by have:=hk.n;dsimp only;omega⟩,by rw[he];dsimp only;conv=>lhs;unfold chaI;rw[hr]⟩,by dsimp only;omega,⟨rfl,rfl,rfl,rfl,trivial⟩,trivial⟩
  ·rw[List.drop_eq_nil_of_le (by omega)]at he;obtain rfl:=hRs now (by rw[he];rfl);refine wa ?_;exact⟨.d rfl (.inl rfl),.d rfl (.inl rfl),trivial⟩
end Go.Proofs.YtbbpecfapohlaaaGreatDoor
namespace Go.Proofs.YtbbpecfapohlaaaGreatDoor
open Go.RowKit
attribute [local irreducible] AC Do St
def r13R(a b:List Int):List DV:=match resI a b with
 | some (c,on)=>[.d (enZ c),.d (.v (.int .i64 on))]
 | none=>[.d (.l []),.d (.v (.int .i64 0))]
theorem resI_len{a b:List Int}(h:(cloI a b).length≠1):resI a b=none:=by
 unfold resI;split
 ·rename_i e;rw[e]at h;exact absurd rfl h
 ·rfl
theorem resolve13(a b:List Int)(ha:∀ l∈a,okLi l)(hb:∀ l∈b,okLi l)(la:a.length≤10000)(lb:b.length≤10000):Fn Tryz.prog 128 [.d (enZ a),.d (enZ b)] (r13R a b):=by
 have hla:(a.map zI).length=a.length:=List.length_map ..;have hlb:(b.map zI).length=b.length:=List.length_map ..;have hco:=fun x=>has13 b x (by omega);obtain⟨R,hR⟩:∃ R,r13R a b=R:=⟨_,rfl⟩
 have hR0:resI a b=none→R=[.d (.l []),.d (.v (.int .i64 0))]:=fun h=>by rw[←hR];unfold r13R;rw[h]
 have hR1:∀ on,cloI a b=[on]→R=[.d (enZ (canI (a.filter (fun l=>decide (l≠on))++b.filter (fun l=>decide (l≠ -on))))),.d (.v (.int .i64 on))]:=fun on h=>by rw[←hR];unfold r13R;rw[resI_one h]
 rw[hR];clear hR;refine Fn.of Tryz.func128 rfl (by kernel_rfl) Tryz.ntmps128 Tryz.results128 rfl fun w0 S0=>?_;refine wa ?_;refine AC.loop (X:=Nat×Int×Nat) (fun x=>⟨[(0,.d (enZ a)),(1,.d (enZ b)),(6,.d (.v (.int .i64 x.2.1))),(7,.d (.v (.int .i64 (x.2.2:Int)))),(15,.d (enZ a)),(16,.d (.v (.int .i64 (a.length:Int)))),(17,.d (.v (.int .i64 (x.1:Int))))],[]⟩) (fun x=>x.1≤a.length∧(cloI (a.take x.1) b).length=x.2.2∧x.2.2≤x.1∧(x.2.2=1→cloI (a.take x.1) b=[x.2.1])) (fun x=>a.length-x.1) (0,0,0) ⟨Nat.zero_le _,rfl,Nat.le_refl _,fun h=>by cases h⟩ ⟨rfl,rfl,rfl,rfl,rfl,rfl,rfl,trivial⟩ trivial ?_;intro ⟨i,on,n⟩ ⟨hi,hc,hn,h1n⟩;dsimp only at hi hc hn h1n ⊢;by_cases h1:i<a.length
 ·have gx:=List.getElem?_eq_getElem h1;have go:=ha _ (List.getElem_mem h1);have gs:=cloI_snoc (b:=b) h1;generalize a[i]=l at gx go gs;have w1:IntKind.i64.wrap (0-l)= -l:=by rw[Int.zero_sub];exact IntWalk.i64_in _ (by have:=go.2;omega)
  have gc:=hco (-l);clear hco hR1 hR0;by_cases h2: -l∈b
  ·rw[decide_eq_true h2]at gc;rw[if_pos h2]at gs;refine wa ?_;((try (first | intro K ms hms hK | intro K hK));(first | apply Chain.go | apply Chain.goD);exact rfl;exact rfl;exact Loc.negM rfl rfl w1);refine wa ?_;exact⟨(i+1,l,n+1),⟨h1,by dsimp only;rw[gs,List.length_append,hc];rfl,by dsimp only;omega,fun h=>by
    dsimp only at h ⊢;have h0:cloI (a.take i) b=[]:=List.length_eq_zero_iff.1 (by omega);rw[gs,h0];rfl⟩,by dsimp only;omega,⟨rfl,rfl,rfl,rfl,rfl,rfl,rfl,trivial⟩,trivial⟩
  ·rw[decide_eq_false h2]at gc;rw[if_neg h2]at gs;refine wa ?_;((try (first | intro K ms hms hK | intro K hK));(first | apply Chain.go | apply Chain.goD);exact rfl;exact rfl;exact Loc.negM rfl rfl w1);refine wa ?_;exact⟨(i+1,on,n),⟨h1,by dsimp only;rw[gs];exact hc,by dsimp only;omega,fun h=>by dsimp only;rw[gs];exact h1n h⟩,by dsimp only;omega,⟨rfl,rfl,rfl,rfl,rfl,rfl,rfl,trivial⟩,trivial⟩
 ·rw[List.take_of_length_le (by omega)]at hc h1n;clear hco;by_cases k1:n=1
  ·have k2:=h1n k1;obtain rfl:=hR1 on k2;have hon:on∈a:=by
    have:on∈cloI a b:=by rw[k2];simp
    exact(List.mem_filter.1 this).1
   have hoo:=ha on hon;have w1:IntKind.i64.wrap (0-on)= -on:=by rw[Int.zero_sub];exact IntWalk.i64_in _ (by have:=hoo.2;omega)
   have hout:∀ l∈a.filter (fun l=>decide (l≠on))++b.filter (fun l=>decide (l≠ -on)),okLi l:=fun l hl=>by
    rcases List.mem_append.1 hl with h | h
    ·exact ha l (List.mem_filter.1 h).1
    ·exact hb l (List.mem_filter.1 h).1
   have hlen:(a.filter (fun l=>decide (l≠on))++b.filter (fun l=>decide (l≠ -on))).length≤20000:=by
    rw[List.length_append];have:=List.length_filter_le (fun l=>decide (l≠on)) a;have:=List.length_filter_le (fun l=>decide (l≠ -on)) b;omega
   have hcan:=canon13 _ hout (by omega);generalize canI (a.filter (fun l=>decide (l≠on))++b.filter (fun l=>decide (l≠ -on)))=Y at hcan ⊢;clear hR0 hR1 hout;refine wa ?_;refine AC.loop (X:=Nat×Nat) (fun x=>⟨[(1,.d (enZ b)),(6,.d (.v (.int .i64 on))),(10,.r 31 x.2),(32,.d (enZ a)),(33,.d (.v (.int .i64 (a.length:Int)))),(34,.d (.v (.int .i64 (x.1:Int))))],[(31,.row x.2 3 1 (((a.take x.1).filter (fun l=>decide (l≠on))).map zI))]⟩) (fun x=>x.1≤a.length) (fun x=>a.length-x.1) (0,0) (Nat.zero_le _) ⟨rfl,rfl,rfl,rfl,rfl,rfl,trivial⟩ ⟨rfl,trivial⟩ ?_;intro ⟨j,n⟩ hj;dsimp only at hj ⊢;by_cases h2:j<a.length
   ·have gx:=List.getElem?_eq_getElem h2;have gs:=fil_snoc (p:=fun l=>decide (l≠on)) h2;have gl:=List.length_filter_le (fun l=>decide (l≠on)) (a.take j);rw[List.length_take]at gl;generalize a[j]=l at gx gs;generalize (a.take j).filter (fun l=>decide (l≠on))=F at gs gl ⊢;have hlF:(F.map zI).length=F.length:=List.length_map ..;have hFa:(F++[l]).map zI=F.map zI++[zI l]:=by rw[List.map_append];rfl
    clear hcan;by_cases h3:l=on
    ·rw[if_neg (by simp[h3])]at gs;refine wa ?_;exact⟨(j+1,n),h2,by dsimp only;omega,⟨rfl,rfl,rfl,rfl,rfl,rfl,trivial⟩,⟨by dsimp only;rw[gs];rfl,trivial⟩⟩
    ·rw[if_pos (by simp[h3])]at gs;refine wa ?_;exact⟨(j+1,n+1),h2,by dsimp only;omega,⟨rfl,rfl,rfl,rfl,rfl,rfl,trivial⟩,⟨by dsimp only;rw[gs,hFa];rfl,trivial⟩⟩
   ·rw[List.take_of_length_le (by omega)];have gla:=List.length_filter_le (fun l=>decide (l≠on)) a;generalize a.filter (fun l=>decide (l≠on))=F at hcan hlen gla ⊢;refine wa ?_;refine AC.loop (X:=Nat×Nat) (fun x=>⟨[(6,.d (.v (.int .i64 on))),(10,.r 31 x.2),(46,.d (enZ b)),(47,.d (.v (.int .i64 (b.length:Int)))),(48,.d (.v (.int .i64 (x.1:Int))))],[(31,.row x.2 3 1 ((F++(b.take x.1).filter (fun l=>decide (l≠ -on))).map zI))]⟩) (fun x=>x.1≤b.length) (fun x=>b.length-x.1) (0,n) (Nat.zero_le _) ⟨rfl,rfl,rfl,rfl,rfl,trivial⟩ ⟨by dsimp only;rw[List.take_zero,List.filter_nil,List.append_nil];rfl,trivial⟩ ?_;intro ⟨k,m⟩ hk;dsimp only at hk ⊢;by_cases h4:k<b.length
    ·have gx:=List.getElem?_eq_getElem h4;have gs:=fil_snoc (p:=fun l=>decide (l≠ -on)) h4;have gl:=List.length_filter_le (fun l=>decide (l≠ -on)) (b.take k);rw[List.length_take]at gl;generalize b[k]=l at gx gs;generalize (b.take k).filter (fun l=>decide (l≠ -on))=G at gs gl ⊢;have hlF:((F++G).map zI).length=F.length+G.length:=by simp
     have hFa:(F++(G++[l])).map zI=(F++G).map zI++[zI l]:=by rw[←List.append_assoc,List.map_append];rfl
     clear hcan;by_cases h3:l= -on
     ·rw[if_neg (by simp[h3])]at gs;refine wa ?_;((try (first | intro K ms hms hK | intro K hK));(first | apply Chain.go | apply Chain.goD);exact rfl;exact rfl;exact Loc.negM rfl rfl w1);refine wa ?_;exact⟨(k+1,m),h4,by dsimp only;omega,⟨rfl,rfl,rfl,rfl,rfl,trivial⟩,⟨by dsimp only;rw[gs];rfl,trivial⟩⟩
     ·rw[if_pos (by simp[h3])]at gs;refine wa ?_;((try (first | intro K ms hms hK | intro K hK));(first | apply Chain.go | apply Chain.goD);exact rfl;exact rfl;exact Loc.negM rfl rfl w1);refine wa ?_;exact⟨(k+1,m+1),h4,by dsimp only;omega,⟨rfl,rfl,rfl,rfl,rfl,trivial⟩,⟨by dsimp only;rw[gs,hFa];rfl,trivial⟩⟩
    ·rw[List.take_of_length_le (by omega)];refine AC.frzVar 10 rfl rfl ?_;refine wa ?_;exact⟨.d rfl (.inl rfl),.d rfl (.inl rfl),trivial⟩
  ·obtain rfl:=hR0 (resI_len (by omega));refine wa ?_;exact⟨.d rfl (.inr rfl),.d rfl (.inl rfl),trivial⟩
end Go.Proofs.YtbbpecfapohlaaaGreatDoor
