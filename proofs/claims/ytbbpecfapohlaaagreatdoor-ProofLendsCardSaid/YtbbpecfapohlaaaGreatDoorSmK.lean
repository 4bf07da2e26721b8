import Derived.Test.YtbbpecfapohlaaaGreatDoorSmJ
set_option maxRecDepth 100000
set_option maxHeartbeats 8000000
namespace Go.Proofs.YtbbpecfapohlaaaGreatDoor
open Go.RowKit
attribute [local irreducible] AC Do St
theorem altB_ix:∀ x:List Int,altB x=true↔∃ i,∃h:i+1<x.length,x[i+1]= -x[i]
 | []=>by simp[altB]
 | [a]=>by simp[altB]
 | a::b::l=>by
   show (decide (b= -a)||altB (b::l))=true↔_;rw[Bool.or_eq_true,decide_eq_true_iff,altB_ix (b::l)];constructor
   ·rintro (h | ⟨i,hi,h⟩)
    ·exact⟨0,by simp,h⟩
    ·exact⟨i+1,by simpa using hi,h⟩
   ·rintro ⟨i,hi,h⟩;cases i with
    | zero=>exact .inl h
    | succ i=>exact .inr ⟨i,by simpa using hi,h⟩
theorem canI_ok{c:List Int}(h:∀ l∈c,okLi l):∀ l∈canI c,okLi l:=fun l hl=>h l ((canI_mem c l).1 hl)
theorem alwaysF(c:List Int)(hok:∀ l∈c,okLi l)(hlen:c.length≤100000000):Fn Tryz.prog 195 [.d (enZ c)] [.d (.v (.bool (altB (canI c)))),.d (.v (.int .i64 0))]:=by
 have hcc:=canonC c (fun l h=>(hok l h).inR) hlen;rw[canC_yes hok]at hcc;have hx:=canI_ok hok;have hxl:=canI_len c;have hix:=altB_ix (canI c);generalize canI c=x at hcc hx hxl hix;have hlx:(x.map zI).length=x.length:=List.length_map ..;obtain⟨R,hR⟩:∃ R,altB x=R:=⟨_,rfl⟩
 rw[hR]at hix ⊢;clear hR hok;refine Fn.of Tryz.func195 rfl (by kernel_rfl) Tryz.ntmps195 Tryz.results195 rfl fun w0 S0=>?_;refine wa ?_;refine AC.loop (X:=Nat) (fun i=>⟨[(4,.d (enZ x)),(6,.d (.v (.int .i64 (i:Int))))],[]⟩) (fun i=>1≤i∧i≤x.length+1∧∀ j (h:j+1<x.length),j+1<i→x[j+1]≠ -x[j]) (fun i=>x.length+1-i) 1 ⟨Nat.le_refl _,by omega,fun j h h1=>by omega⟩ ⟨rfl,rfl,trivial⟩ trivial ?_;intro i ⟨hi,hi2,hg⟩;dsimp only at hi hi2 hg ⊢;by_cases h1:i<x.length
 ·obtain⟨j,rfl⟩:∃ j,i=j+1:=⟨i-1,by omega⟩
  have h2:j<x.length:=by omega
  have g1:=List.getElem?_eq_getElem h1;have g2:=List.getElem?_eq_getElem h2;have ho:=hx _ (List.getElem_mem h2);have hs:x[j+1]≠ -x[j]→∀ k (h:k+1<x.length),k+1<j+1+1→x[k+1]≠ -x[k]:=fun h k hk hkj=>by
   rcases Nat.lt_succ_iff_lt_or_eq.1 hkj with h3 | h3
   ·exact hg k hk h3
   ·obtain rfl:k=j:=by omega
    exact h
  have hy:x[j+1]= -x[j]→R=true:=fun h=>hix.2 ⟨j,h1,h⟩;generalize x[j+1]=u at g1 hs hy;generalize x[j]=v at g2 hs hy ho;have w1:IntKind.i64.wrap (0-v)= -v:=by rw[Int.zero_sub];exact IntWalk.i64_in _ (by have:=ho.2;omega)
  refine wa ?_;((try (first | intro K ms hms hK | intro K hK));(first | apply Chain.go | apply Chain.goD);exact rfl;exact rfl;exact Loc.idxM (i:=j) rfl rfl rfl (by omega) g2 rfl);refine wa ?_;((try (first | intro K ms hms hK | intro K hK));(first | apply Chain.go | apply Chain.goD);exact rfl;exact rfl;exact Loc.negM rfl rfl w1);by_cases h3:u= -v
  ·obtain rfl:=hy h3;refine wa ?_;exact⟨.d rfl (.inl rfl),.d rfl (.inl rfl),trivial⟩
  ·refine wa ?_;exact⟨j+1+1,⟨by omega,by omega,hs h3⟩,by omega,⟨rfl,rfl,trivial⟩,trivial⟩
 ·have:R=false:=by
   cases R with
   | false=>rfl
   | true=>
     obtain⟨j,h2,h3⟩:=hix.1 rfl;exact absurd h3 (hg j h2 (by omega))
  subst this;refine wa ?_;exact⟨.d rfl (.inl rfl),.d rfl (.inl rfl),trivial⟩
theorem renL_step{b:Int}{ts c:List Int}{i:Nat}(h:i<c.length):renL b ts (c.take (i+1))=if renV b ts c[i]= -big40 then renL b ts (c.take i)else renL b ts (c.take i)++[renV b ts c[i]]:=by
 unfold renL;rw[List.take_succ_eq_append_getElem h,List.map_append,List.filter_append];by_cases h1:renV b ts c[i]= -big40
 ·rw[if_pos h1];simp[h1]
 ·rw[if_neg h1];simp[h1]
def renR(b:Int)(ts c:List Int):List DV:=if big40∈c.map (renV b ts)then [.d (.l []),.d (.v (.bool false))]else [.d (enZ (canI (renL b ts c))),.d (.v (.bool (!altB (canI (renL b ts c)))))]
theorem renamedF(b:Int)(ts c:List Int)(hb:0≤b)(hb1:b≤1000)(hn:ts.length≤1000)(hc:c.length≤1000)(hk:∀ l∈c,okLi l∧szI l≤b+ts.length)(ht:∀ v∈ts,-1099511627776≤v∧v≤1099511627776)
  (hok:∀ l∈c,renV b ts l=big40∨renV b ts l= -big40∨okLi (renV b ts l)):Fn Tryz.prog 118 [.d (.v (.int .i64 b)),.d (enZ ts),.d (enZ c)] (renR b ts c):=by
 obtain⟨R,hR⟩:∃ R,renR b ts c=R:=⟨_,rfl⟩
 have hR1:(∃l∈c,renV b ts l=big40)→R=[.d (.l []),.d (.v (.bool false))]:=fun⟨l,h1,h2⟩=>by
  rw[←hR];unfold renR;rw[if_pos (List.mem_map.2 ⟨l,h1,h2⟩)]
 have hR2:(∀l∈c,renV b ts l≠big40)→R=[.d (enZ (canI (renL b ts c))),.d (.v (.bool (!altB (canI (renL b ts c)))))]:=fun h=>by
  rw[←hR];unfold renR;rw[if_neg fun h1=>by obtain⟨l,h2,h3⟩:=List.mem_map.1 h1;exact h l h2 h3]
 rw[hR];clear hR;have hlc:(c.map zI).length=c.length:=List.length_map ..;have hlt:(ts.map zI).length=ts.length:=List.length_map ..;refine Fn.of Tryz.func118 rfl (by kernel_rfl) Tryz.ntmps118 Tryz.results118 rfl fun w0 S0=>?_;refine wk ?_;refine AC.loop (X:=Nat×Nat) (fun x=>⟨[(0,.d (.v (.int .i64 b))),(1,.d (enZ ts)),(8,.r 14 x.2),(15,.d (enZ c)),(16,.d (.v (.int .i64 (c.length:Int)))),(17,.d (.v (.int .i64 (x.1:Int))))],[(14,.row x.2 3 1 ((renL b ts (c.take x.1)).map zI))]⟩) (fun x=>x.1≤c.length∧∀ l∈c.take x.1,renV b ts l≠big40) (fun x=>c.length-x.1) (0,0) ⟨Nat.zero_le _,fun l hl=>by simp at hl⟩ ⟨rfl,rfl,rfl,rfl,rfl,rfl,trivial⟩ ⟨rfl,trivial⟩ ?_;intro ⟨i,n⟩ ⟨hi,hg⟩;dsimp only at hi hg ⊢;have hsl:(renL b ts (c.take i)).length≤i:=by
  unfold renL;refine Nat.le_trans (List.length_filter_le _ _) ?_;rw[List.length_map,List.length_take];omega
 by_cases h1:i<c.length
 ·have gx:=List.getElem?_eq_getElem h1;have hm:=List.getElem_mem h1;obtain⟨ho,hz⟩:=hk _ hm;have hv:=hok _ hm;obtain⟨Nx,hNx⟩:∃ Nx:Prop,Nx=∀ l∈c.take (i+1),renV b ts l≠big40:=⟨_,rfl⟩
  have hs:renV b ts c[i]≠big40→Nx:=fun h=>by rw[hNx];exact all_take' (P:=fun l=>renV b ts l≠big40) h1 hg h
  have hst:=renL_step (b:=b) (ts:=ts) h1;generalize c[i]=l at gx hm ho hz hv hs hst;have hbig:renV b ts l=big40→R=[.d (.l []),.d (.v (.bool false))]:=fun h=>hR1 ⟨l,hm,h⟩;have m1:=max_sz ho;have w1:IntKind.i64.wrap (0-l)= -l:=by rw[Int.zero_sub];exact IntWalk.i64_in _ (by have:=ho.2;omega)
  obtain⟨z1,z2⟩:=szI_ok ho;obtain⟨l0,_,_⟩:=ho;generalize renL b ts (c.take i)=L at hst hsl ⊢;have hlL:(L.map zI).length=L.length:=List.length_map ..;have hLa:∀ v,(L++[v]).map zI=L.map zI++[zI v]:=fun v=>by rw[List.map_append];rfl
  clear hR1 hR2 hok hk;unfold renV at hv hs hst hbig;unfold big40 at hv hs hst hbig;generalize szI l=z at m1 hz hv hs hst hbig z1 z2;by_cases h2:b<z
  ·rw[if_pos h2]at hv hs hst hbig;obtain⟨j,hj⟩:∃ j:Nat,z=b+j+1:=⟨(z-b-1).toNat,by omega⟩
   have hjl:j<ts.length:=by omega
   have gj:=List.getElem?_eq_getElem hjl;have htj:=ht _ (List.getElem_mem hjl);rw[show (z-b-1).toNat=j by omega,gj,Option.getD_some]at hv hs hst hbig;generalize ts[j]=t at gj htj hv hs hst hbig;have w2:IntKind.i64.wrap (0-t)= -t:=by rw[Int.zero_sub];exact IntWalk.i64_in _ (by omega)
   by_cases h3:l<0
   ·rw[if_pos h3]at hv hs hst hbig;by_cases h4: -t=1099511627776
    ·obtain rfl:=hbig h4;refine wa ?_;((try (first | intro K ms hms hK | intro K hK));(first | apply Chain.go | apply Chain.goD);exact rfl;exact rfl;exact Loc.negM rfl rfl w1);refine wa ?_;((try (first | intro K ms hms hK | intro K hK));(first | apply Chain.go | apply Chain.goD);exact rfl;exact rfl;exact Loc.maxZ rfl rfl rfl m1);refine wa ?_;((try (first | intro K ms hms hK | intro K hK));(first | apply Chain.go | apply Chain.goD);exact rfl;exact rfl;exact Loc.idxM (i:=j) rfl rfl rfl (by omega) gj rfl);refine wa ?_;((try (first | intro K ms hms hK | intro K hK));(first | apply Chain.go | apply Chain.goD);exact rfl;exact rfl;exact Loc.negM rfl rfl w2);refine wa ?_;exact⟨.d rfl (.inr rfl),.d rfl (.inl rfl),trivial⟩
    by_cases h5: -t= -1099511627776
    ·rw[if_pos h5]at hst;refine wa ?_;((try (first | intro K ms hms hK | intro K hK));(first | apply Chain.go | apply Chain.goD);exact rfl;exact rfl;exact Loc.negM rfl rfl w1);refine wa ?_;((try (first | intro K ms hms hK | intro K hK));(first | apply Chain.go | apply Chain.goD);exact rfl;exact rfl;exact Loc.maxZ rfl rfl rfl m1);refine wa ?_;((try (first | intro K ms hms hK | intro K hK));(first | apply Chain.go | apply Chain.goD);exact rfl;exact rfl;exact Loc.idxM (i:=j) rfl rfl rfl (by omega) gj rfl);refine wa ?_;((try (first | intro K ms hms hK | intro K hK));(first | apply Chain.go | apply Chain.goD);exact rfl;exact rfl;exact Loc.negM rfl rfl w2);refine wa ?_;exact⟨(i+1,n),⟨h1,hNx▸hs h4⟩,by dsimp only;omega,⟨rfl,rfl,rfl,rfl,rfl,rfl,trivial⟩,⟨by dsimp only;rw[hst];rfl,trivial⟩⟩
    ·rw[if_neg h5]at hst;refine wa ?_;((try (first | intro K ms hms hK | intro K hK));(first | apply Chain.go | apply Chain.goD);exact rfl;exact rfl;exact Loc.negM rfl rfl w1);refine wa ?_;((try (first | intro K ms hms hK | intro K hK));(first | apply Chain.go | apply Chain.goD);exact rfl;exact rfl;exact Loc.maxZ rfl rfl rfl m1);refine wa ?_;((try (first | intro K ms hms hK | intro K hK));(first | apply Chain.go | apply Chain.goD);exact rfl;exact rfl;exact Loc.idxM (i:=j) rfl rfl rfl (by omega) gj rfl);refine wa ?_;((try (first | intro K ms hms hK | intro K hK));(first | apply Chain.go | apply Chain.goD);exact rfl;exact rfl;exact Loc.negM rfl rfl w2);refine wa ?_;exact⟨(i+1,n+1),⟨h1,hNx▸hs h4⟩,by dsimp only;omega,⟨rfl,rfl,rfl,rfl,rfl,rfl,trivial⟩,⟨by dsimp only;rw[hst,hLa];rfl,trivial⟩⟩
   ·rw[if_neg h3]at hv hs hst hbig;by_cases h4:t=1099511627776
    ·obtain rfl:=hbig h4;refine wa ?_;((try (first | intro K ms hms hK | intro K hK));(first | apply Chain.go | apply Chain.goD);exact rfl;exact rfl;exact Loc.negM rfl rfl w1);refine wa ?_;((try (first | intro K ms hms hK | intro K hK));(first | apply Chain.go | apply Chain.goD);exact rfl;exact rfl;exact Loc.maxZ rfl rfl rfl m1);refine wa ?_;((try (first | intro K ms hms hK | intro K hK));(first | apply Chain.go | apply Chain.goD);exact rfl;exact rfl;exact Loc.idxM (i:=j) rfl rfl rfl (by omega) gj rfl);refine wa ?_;exact⟨.d rfl (.inr rfl),.d rfl (.inl rfl),trivial⟩
    by_cases h5:t= -1099511627776
    ·rw[if_pos h5]at hst;refine wa ?_;((try (first | intro K ms hms hK | intro K hK));(first | apply Chain.go | apply Chain.goD);exact rfl;exact rfl;exact Loc.negM rfl rfl w1);refine wa ?_;((try (first | intro K ms hms hK | intro K hK));(first | apply Chain.go | apply Chain.goD);exact rfl;exact rfl;exact Loc.maxZ rfl rfl rfl m1);refine wa ?_;((try (first | intro K ms hms hK | intro K hK));(first | apply Chain.go | apply Chain.goD);exact rfl;exact rfl;exact Loc.idxM (i:=j) rfl rfl rfl (by omega) gj rfl);refine wa ?_;exact⟨(i+1,n),⟨h1,hNx▸hs h4⟩,by dsimp only;omega,⟨rfl,rfl,rfl,rfl,rfl,rfl,trivial⟩,⟨by dsimp only;rw[hst];rfl,trivial⟩⟩
    ·rw[if_neg h5]at hst;refine wa ?_;((try (first | intro K ms hms hK | intro K hK));(first | apply Chain.go | apply Chain.goD);exact rfl;exact rfl;exact Loc.negM rfl rfl w1);refine wa ?_;((try (first | intro K ms hms hK | intro K hK));(first | apply Chain.go | apply Chain.goD);exact rfl;exact rfl;exact Loc.maxZ rfl rfl rfl m1);refine wa ?_;((try (first | intro K ms hms hK | intro K hK));(first | apply Chain.go | apply Chain.goD);exact rfl;exact rfl;exact Loc.idxM (i:=j) rfl rfl rfl (by omega) gj rfl);refine wa ?_;exact⟨(i+1,n+1),⟨h1,hNx▸hs h4⟩,by dsimp only;omega,⟨rfl,rfl,rfl,rfl,rfl,rfl,trivial⟩,⟨by dsimp only;rw[hst,hLa];rfl,trivial⟩⟩
  ·rw[if_neg h2]at hv hs hst hbig;by_cases h3:l<0
   ·rw[if_pos h3]at hv hs hst hbig;have w2:IntKind.i64.wrap (0-z)= -z:=by rw[Int.zero_sub];exact IntWalk.i64_in _ (by omega)
    have h4:¬ -z=1099511627776:=by omega
    rw[if_neg (by omega)]at hst;refine wa ?_;((try (first | intro K ms hms hK | intro K hK));(first | apply Chain.go | apply Chain.goD);exact rfl;exact rfl;exact Loc.negM rfl rfl w1);refine wa ?_;((try (first | intro K ms hms hK | intro K hK));(first | apply Chain.go | apply Chain.goD);exact rfl;exact rfl;exact Loc.maxZ rfl rfl rfl m1);refine wa ?_;((try (first | intro K ms hms hK | intro K hK));(first | apply Chain.go | apply Chain.goD);exact rfl;exact rfl;exact Loc.negM rfl rfl w2);refine wa ?_;exact⟨(i+1,n+1),⟨h1,hNx▸hs h4⟩,by dsimp only;omega,⟨rfl,rfl,rfl,rfl,rfl,rfl,trivial⟩,⟨by dsimp only;rw[hst,hLa];rfl,trivial⟩⟩
   ·rw[if_neg h3]at hv hs hst hbig;have h4:¬ z=1099511627776:=by omega
    rw[if_neg (by omega)]at hst;refine wa ?_;((try (first | intro K ms hms hK | intro K hK));(first | apply Chain.go | apply Chain.goD);exact rfl;exact rfl;exact Loc.negM rfl rfl w1);refine wa ?_;((try (first | intro K ms hms hK | intro K hK));(first | apply Chain.go | apply Chain.goD);exact rfl;exact rfl;exact Loc.maxZ rfl rfl rfl m1);refine wa ?_;exact⟨(i+1,n+1),⟨h1,hNx▸hs h4⟩,by dsimp only;omega,⟨rfl,rfl,rfl,rfl,rfl,rfl,trivial⟩,⟨by dsimp only;rw[hst,hLa];rfl,trivial⟩⟩
 ·rw[List.take_of_length_le (by omega)]at hg hsl ⊢;have hlr:∀ l∈renL b ts c,okLi l:=fun v hv=>by
   obtain⟨h2,h3⟩:=List.mem_filter.1 hv;have h3:=of_decide_eq_true h3;obtain⟨l,h4,rfl⟩:=List.mem_map.1 h2;rcases hok l h4 with h5 | h5 | h5
   ·exact absurd h5 (hg l h4)
   ·exact absurd h5 h3
   ·exact h5
  obtain rfl:=hR2 hg;have hcc:=canonC (renL b ts c) (fun l h=>(hlr l h).inR) (by omega);rw[canC_yes hlr]at hcc;have hcl:=canI_len (renL b ts c);have hal:=alwaysF (canI (renL b ts c)) (canI_ok hlr) (by omega);rw[canI_can]at hal;generalize canI (renL b ts c)=y at hcc hcl hal ⊢;generalize altB y=B at hal ⊢;generalize renL b ts c=L at hcc hcl hsl ⊢;clear hR1 hR2 hok hk hg hlr;cases B with
  | true=>
    refine AC.frzVar 8 rfl rfl ?_;refine wa ?_;exact⟨.d rfl (.inl rfl),.d rfl (.inl rfl),trivial⟩
  | false=>
    refine AC.frzVar 8 rfl rfl ?_;refine wa ?_;exact⟨.d rfl (.inl rfl),.d rfl (.inl rfl),trivial⟩
end Go.Proofs.YtbbpecfapohlaaaGreatDoor
