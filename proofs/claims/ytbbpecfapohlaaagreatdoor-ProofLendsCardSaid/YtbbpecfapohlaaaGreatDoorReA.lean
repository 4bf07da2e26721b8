import Derived.Test.YtbbpecfapohlaaaGreatDoorSmF
set_option maxRecDepth 100000
set_option maxHeartbeats 8000000
namespace Go.Proofs.YtbbpecfapohlaaaGreatDoor
open Go.RowKit
attribute [local irreducible] AC Do St
def cloI(a b:List Int):List Int:=a.filter fun l=>decide (-l∈b)
def resI(a b:List Int):Option (List Int×Int):=match cloI a b with
 | [on]=>some (canI (a.filter (fun l=>decide (l≠on))++b.filter (fun l=>decide (l≠ -on))),on)
 | _=>none
theorem cloI_snoc{a b:List Int}{i:Nat}(h:i<a.length):cloI (a.take (i+1)) b=if-a[i]∈b then cloI (a.take i) b++[a[i]]else cloI (a.take i) b:=by
 unfold cloI;rw[List.take_succ_eq_append_getElem h,List.filter_append];by_cases h1: -a[i]∈b
 ·rw[if_pos h1];simp[h1]
 ·rw[if_neg h1];simp[h1]
theorem bothF(a b:List Int)(ha:∀ l∈a,okLi l)(hb:∀ l∈b,okLi l)(la:a.length≤100000000)(lb:b.length≤100000000):Fn Tryz.prog 239 [.d (enZ a),.d (enZ b)] [.d (enZ (canI a)),.d (enZ (canI b)),.d (.v (.int .i64 0))]:=by
 have h1:=canonC a (fun l h=>(ha l h).inR) la;have h2:=canonC b (fun l h=>(hb l h).inR) lb;rw[canC_yes ha]at h1;rw[canC_yes hb]at h2;generalize canI a=x at h1 ⊢;generalize canI b=y at h2 ⊢;refine Fn.of Tryz.func239 rfl (by kernel_rfl) Tryz.ntmps239 Tryz.results239 rfl fun w0 S0=>?_;refine wk ?_;refine c1 h1 ?_;refine wk ?_;refine c1 h2 ?_;refine wk ?_;exact⟨.d rfl (.inl rfl),.d rfl (.inl rfl),.d rfl (.inl rfl),trivial⟩
theorem indexZ(c:List Int)(x:Int)(hl:c.length≤1000000000):∃ i:Int,Fn Tryz.prog 276 [.d (enZ c),.d (.v (.int .i64 x))] [.d (.v (.int .i64 i))]∧(0≤i↔x∈c):=by
 have hlc:(c.map zI).length=c.length:=List.length_map ..;by_cases hx:x∈c
 ·obtain⟨k,hk,hk2,hk3⟩:∃ k,∃h:k<c.length,c[k]=x∧∀ j (h:j<k),c[j]'(by omega)≠x:=by
   have h1:c.idxOf x<c.length:=List.idxOf_lt_length_of_mem hx;refine⟨c.idxOf x,h1,List.getElem_idxOf h1,fun j hj e=>?_⟩;have:=List.not_of_lt_findIdx (p:=(· ==x)) (xs:=c) hj;simp[e]at this
  refine⟨k,?_,by simp[hx]⟩;refine Fn.of Tryz.func276 rfl (by kernel_rfl) Tryz.ntmps276 Tryz.results276 rfl fun w0 S0=>?_;refine wa ?_;refine AC.loop (X:=Nat) (fun i=>⟨[(0,.d (enZ c)),(1,.d (.v (.int .i64 x))),(7,.d (.v (.int .i64 (c.length:Int)))),(8,.d (.v (.int .i64 (i:Int))))],[]⟩) (fun i=>i≤k) (fun i=>k-i) 0 (Nat.zero_le _) ⟨rfl,rfl,rfl,rfl,trivial⟩ trivial ?_;intro i hi;dsimp only at hi ⊢;have h1:i<c.length:=by omega
  have gx:=List.getElem?_eq_getElem h1;by_cases h2:i=k
  ·subst h2;rw[hk2]at gx;refine wa ?_;exact⟨.d rfl (.inl rfl),trivial⟩
  ·have hn:=hk3 i (by omega);generalize c[i]=u at gx hn;have hn':x≠u:=fun e=>hn e.symm;refine wa ?_;exact⟨i+1,by omega,by omega,⟨rfl,rfl,rfl,rfl,trivial⟩,trivial⟩
 ·refine⟨-1,?_,by simp[hx]⟩;refine Fn.of Tryz.func276 rfl (by kernel_rfl) Tryz.ntmps276 Tryz.results276 rfl fun w0 S0=>?_;refine wa ?_;refine AC.loop (X:=Nat) (fun i=>⟨[(0,.d (enZ c)),(1,.d (.v (.int .i64 x))),(7,.d (.v (.int .i64 (c.length:Int)))),(8,.d (.v (.int .i64 (i:Int))))],[]⟩) (fun i=>i≤c.length) (fun i=>c.length-i) 0 (Nat.zero_le _) ⟨rfl,rfl,rfl,rfl,trivial⟩ trivial ?_;intro i hi;dsimp only at hi ⊢;by_cases h1:i<c.length
  ·have gx:=List.getElem?_eq_getElem h1;have hn:x≠c[i]:=fun e=>hx (e▸List.getElem_mem h1);generalize c[i]=u at gx hn;refine wa ?_;exact⟨i+1,by omega,by omega,⟨rfl,rfl,rfl,rfl,trivial⟩,trivial⟩
  ·refine wa ?_;exact⟨.d rfl (.inl rfl),trivial⟩
theorem containsZ(c:List Int)(x:Int)(hl:c.length≤1000000000):Fn Tryz.prog 240 [.d (enZ c),.d (.v (.int .i64 x))] [.d (.v (.bool (decide (x∈c))))]:=by
 obtain⟨i,h1,h2⟩:=indexZ c x hl;by_cases hx:x∈c
 ·rw[decide_eq_true hx];have:=h2.2 hx;refine Fn.of Tryz.func240 rfl (by kernel_rfl) Tryz.ntmps240 Tryz.results240 rfl fun w0 S0=>?_;refine wa ?_;exact⟨.d rfl (.inl rfl),trivial⟩
 ·rw[decide_eq_false hx];have:¬ 0≤i:=fun h=>hx (h2.1 h);refine Fn.of Tryz.func240 rfl (by kernel_rfl) Tryz.ntmps240 Tryz.results240 rfl fun w0 S0=>?_;refine wa ?_;exact⟨.d rfl (.inl rfl),trivial⟩
def rslR(a b:List Int):List DV:=match resI a b with
 | some (c,on)=>[.d (enZ c),.d (.v (.int .i64 on)),.d (.v (.int .i64 0))]
 | none=>[.d (.l []),.d (.v (.int .i64 0)),.d (.v (.int .i64 6))]
theorem fil_snoc{a:List Int}{p:Int→Bool}{i:Nat}(h:i<a.length):(a.take (i+1)).filter p=if p a[i]=true then(a.take i).filter p++[a[i]]else(a.take i).filter p:=by
 rw[List.take_succ_eq_append_getElem h,List.filter_append];by_cases h1:p a[i]=true
 ·rw[if_pos h1];simp[h1]
 ·rw[if_neg h1];simp[h1]
theorem resI_one{a b:List Int}{on:Int}(h:cloI a b=[on]):resI a b=some (canI (a.filter (fun l=>decide (l≠on))++b.filter (fun l=>decide (l≠ -on))),on):=by unfold resI;rw[h]
theorem resI_zero{a b:List Int}(h:cloI a b=[]):resI a b=none:=by unfold resI;rw[h]
theorem resI_two{a b:List Int}{u v:Int}{i:Nat}(h:cloI (a.take i) b=[u,v]):resI a b=none:=by
 have e:cloI a b=cloI (a.take i) b++cloI (a.drop i) b:=by
  unfold cloI;rw[←List.filter_append,List.take_append_drop]
 unfold resI;rw[e,h];rfl
theorem resolveF(a b:List Int)(ha:∀ l∈a,okLi l)(hb:∀ l∈b,okLi l)(ca:canI a=a)(cb:canI b=b)(la:a.length≤10000)(lb:b.length≤10000):Fn Tryz.prog 199 [.d (enZ a),.d (enZ b)] (rslR a b):=by
 have hbo:=bothF a b ha hb (by omega) (by omega);rw[ca,cb]at hbo;have hla:(a.map zI).length=a.length:=List.length_map ..;have hlb:(b.map zI).length=b.length:=List.length_map ..;have hco:=fun x=>containsZ b x (by omega);obtain⟨R,hR⟩:∃ R,rslR a b=R:=⟨_,rfl⟩
 have hR0:resI a b=none→R=[.d (.l []),.d (.v (.int .i64 0)),.d (.v (.int .i64 6))]:=fun h=>by rw[←hR];unfold rslR;rw[h]
 have hR1:∀ on,cloI a b=[on]→R=[.d (enZ (canI (a.filter (fun l=>decide (l≠on))++b.filter (fun l=>decide (l≠ -on))))),.d (.v (.int .i64 on)),.d (.v (.int .i64 0))]:=fun on h=>by rw[←hR];unfold rslR;rw[resI_one h]
 rw[hR];clear hR ca cb;refine Fn.of Tryz.func199 rfl (by kernel_rfl) Tryz.ntmps199 Tryz.results199 rfl fun w0 S0=>?_;refine wk ?_;refine c1 hbo ?_;clear hbo;refine wk ?_;refine AC.loop (X:=Nat×Int) (fun x=>⟨[(7,.d (enZ a)),(8,.d (enZ b)),(10,.d (.v (.int .i64 x.2))),(28,.d (enZ a)),(29,.d (.v (.int .i64 (a.length:Int)))),(30,.d (.v (.int .i64 (x.1:Int))))],[]⟩) (fun x=>x.1≤a.length∧((x.2=0∧cloI (a.take x.1) b=[])∨(x.2≠0∧cloI (a.take x.1) b=[x.2]))) (fun x=>a.length-x.1) (0,0) ⟨Nat.zero_le _,.inl ⟨rfl,rfl⟩⟩ ⟨rfl,rfl,rfl,rfl,rfl,rfl,trivial⟩ trivial ?_;intro ⟨i,on⟩ ⟨hi,hc⟩;dsimp only at hi hc ⊢;by_cases h1:i<a.length
 ·have gx:=List.getElem?_eq_getElem h1;have go:=ha _ (List.getElem_mem h1);have gs:=cloI_snoc (b:=b) h1;generalize a[i]=l at gx go gs;have w1:IntKind.i64.wrap (0-l)= -l:=by rw[Int.zero_sub];exact IntWalk.i64_in _ (by have:=go.2;omega)
  have l0:=go.1;have gc:=hco (-l);clear hco hR1;by_cases h2: -l∈b
  ·rw[decide_eq_true h2]at gc;rw[if_pos h2]at gs;rcases hc with ⟨k1,k2⟩ | ⟨k1,k2⟩
   ·subst k1;rw[k2,List.nil_append]at gs;refine wa ?_;((try (first | intro K ms hms hK | intro K hK));(first | apply Chain.go | apply Chain.goD);exact rfl;exact rfl;exact Loc.negM rfl rfl w1);refine wa ?_;exact⟨(i+1,l),⟨h1,.inr ⟨l0,gs⟩⟩,by dsimp only;omega,⟨rfl,rfl,rfl,rfl,rfl,rfl,trivial⟩,trivial⟩
   ·rw[k2]at gs;obtain rfl:=hR0 (resI_two gs);refine wa ?_;((try (first | intro K ms hms hK | intro K hK));(first | apply Chain.go | apply Chain.goD);exact rfl;exact rfl;exact Loc.negM rfl rfl w1);refine wa ?_;exact⟨.d rfl (.inr rfl),.d rfl (.inl rfl),.d rfl (.inl rfl),trivial⟩
  ·rw[decide_eq_false h2]at gc;rw[if_neg h2]at gs;refine wa ?_;((try (first | intro K ms hms hK | intro K hK));(first | apply Chain.go | apply Chain.goD);exact rfl;exact rfl;exact Loc.negM rfl rfl w1);refine wa ?_;exact⟨(i+1,on),⟨h1,by rw[gs];exact hc⟩,by dsimp only;omega,⟨rfl,rfl,rfl,rfl,rfl,rfl,trivial⟩,trivial⟩
 ·rw[List.take_of_length_le (by omega)]at hc;clear hco;rcases hc with ⟨k1,k2⟩ | ⟨k1,k2⟩
  ·subst k1;obtain rfl:=hR0 (resI_zero k2);refine wa ?_;exact⟨.d rfl (.inr rfl),.d rfl (.inl rfl),.d rfl (.inl rfl),trivial⟩
  ·obtain rfl:=hR1 on k2;have hon:on∈a:=by
    have:on∈cloI a b:=by rw[k2];simp
    exact(List.mem_filter.1 this).1
   have hoo:=ha on hon;have w1:IntKind.i64.wrap (0-on)= -on:=by rw[Int.zero_sub];exact IntWalk.i64_in _ (by have:=hoo.2;omega)
   have hout:∀ l∈a.filter (fun l=>decide (l≠on))++b.filter (fun l=>decide (l≠ -on)),okLi l:=fun l hl=>by
    rcases List.mem_append.1 hl with h | h
    ·exact ha l (List.mem_filter.1 h).1
    ·exact hb l (List.mem_filter.1 h).1
   have hlen:(a.filter (fun l=>decide (l≠on))++b.filter (fun l=>decide (l≠ -on))).length≤20000:=by
    rw[List.length_append];have:=List.length_filter_le (fun l=>decide (l≠on)) a;have:=List.length_filter_le (fun l=>decide (l≠ -on)) b;omega
   have hcan:=canonC _ (fun l h=>(hout l h).inR) (by omega);rw[canC_yes hout]at hcan;generalize canI (a.filter (fun l=>decide (l≠on))++b.filter (fun l=>decide (l≠ -on)))=Y at hcan ⊢;clear hR0 hR1 hout;refine wa ?_;refine AC.rowVar 13 79 3 1 rfl rfl ?_;refine AC.loop (X:=Nat×Nat) (fun x=>⟨[(8,.d (enZ b)),(10,.d (.v (.int .i64 on))),(13,.r 79 x.2),(44,.d (enZ a)),(45,.d (.v (.int .i64 (a.length:Int)))),(46,.d (.v (.int .i64 (x.1:Int))))],[(79,.row x.2 3 1 (((a.take x.1).filter (fun l=>decide (l≠on))).map zI))]⟩) (fun x=>x.1≤a.length) (fun x=>a.length-x.1) (0,0) (Nat.zero_le _) ⟨rfl,rfl,rfl,rfl,rfl,rfl,trivial⟩ ⟨rfl,trivial⟩ ?_;intro ⟨j,n⟩ hj;dsimp only at hj ⊢;by_cases h2:j<a.length
   ·have gx:=List.getElem?_eq_getElem h2;have gs:=fil_snoc (p:=fun l=>decide (l≠on)) h2;have gl:=List.length_filter_le (fun l=>decide (l≠on)) (a.take j);rw[List.length_take]at gl;generalize a[j]=l at gx gs;generalize (a.take j).filter (fun l=>decide (l≠on))=F at gs gl ⊢;have hlF:(F.map zI).length=F.length:=List.length_map ..;have hFa:(F++[l]).map zI=F.map zI++[zI l]:=by rw[List.map_append];rfl
    clear hcan;by_cases h3:l=on
    ·rw[if_neg (by simp[h3])]at gs;refine wa ?_;exact⟨(j+1,n),h2,by dsimp only;omega,⟨rfl,rfl,rfl,rfl,rfl,rfl,trivial⟩,⟨by dsimp only;rw[gs];rfl,trivial⟩⟩
    ·rw[if_pos (by simp[h3])]at gs;refine wa ?_;exact⟨(j+1,n+1),h2,by dsimp only;omega,⟨rfl,rfl,rfl,rfl,rfl,rfl,trivial⟩,⟨by dsimp only;rw[gs,hFa];rfl,trivial⟩⟩
   ·rw[List.take_of_length_le (by omega)];have gla:=List.length_filter_le (fun l=>decide (l≠on)) a;generalize a.filter (fun l=>decide (l≠on))=F at hcan hlen gla ⊢;refine wa ?_;refine AC.loop (X:=Nat×Nat) (fun x=>⟨[(10,.d (.v (.int .i64 on))),(13,.r 79 x.2),(58,.d (enZ b)),(59,.d (.v (.int .i64 (b.length:Int)))),(60,.d (.v (.int .i64 (x.1:Int))))],[(79,.row x.2 3 1 ((F++(b.take x.1).filter (fun l=>decide (l≠ -on))).map zI))]⟩) (fun x=>x.1≤b.length) (fun x=>b.length-x.1) (0,n) (Nat.zero_le _) ⟨rfl,rfl,rfl,rfl,rfl,trivial⟩ ⟨by dsimp only;rw[List.take_zero,List.filter_nil,List.append_nil];rfl,trivial⟩ ?_;intro ⟨k,m⟩ hk;dsimp only at hk ⊢;by_cases h4:k<b.length
    ·have gx:=List.getElem?_eq_getElem h4;have gs:=fil_snoc (p:=fun l=>decide (l≠ -on)) h4;have gl:=List.length_filter_le (fun l=>decide (l≠ -on)) (b.take k);rw[List.length_take]at gl;generalize b[k]=l at gx gs;generalize (b.take k).filter (fun l=>decide (l≠ -on))=G at gs gl ⊢;have hlF:((F++G).map zI).length=F.length+G.length:=by simp
     have hFa:(F++(G++[l])).map zI=(F++G).map zI++[zI l]:=by rw[←List.append_assoc,List.map_append];rfl
     clear hcan;by_cases h3:l= -on
     ·rw[if_neg (by simp[h3])]at gs;refine wa ?_;((try (first | intro K ms hms hK | intro K hK));(first | apply Chain.go | apply Chain.goD);exact rfl;exact rfl;exact Loc.negM rfl rfl w1);refine wa ?_;exact⟨(k+1,m),h4,by dsimp only;omega,⟨rfl,rfl,rfl,rfl,rfl,trivial⟩,⟨by dsimp only;rw[gs];rfl,trivial⟩⟩
     ·rw[if_pos (by simp[h3])]at gs;refine wa ?_;((try (first | intro K ms hms hK | intro K hK));(first | apply Chain.go | apply Chain.goD);exact rfl;exact rfl;exact Loc.negM rfl rfl w1);refine wa ?_;exact⟨(k+1,m+1),h4,by dsimp only;omega,⟨rfl,rfl,rfl,rfl,rfl,trivial⟩,⟨by dsimp only;rw[gs,hFa];rfl,trivial⟩⟩
    ·rw[List.take_of_length_le (by omega)];refine AC.frzVar 13 rfl rfl ?_;refine wa ?_;exact⟨.d rfl (.inl rfl),.d rfl (.inl rfl),.d rfl (.inl rfl),trivial⟩
end Go.Proofs.YtbbpecfapohlaaaGreatDoor
