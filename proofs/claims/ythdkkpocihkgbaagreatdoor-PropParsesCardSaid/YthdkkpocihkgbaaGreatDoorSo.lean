import Derived.Test.YthdkkpocihkgbaaGreatDoorPrI
set_option maxRecDepth 100000
set_option maxHeartbeats 4000000
namespace Go.Proofs.YthdkkpocihkgbaaGreatDoor
open Go.RowKit
attribute [local irreducible] AC Do St
def tm(c:List D):Prop:=(∃n x y z,c=[.v (.int .i64 n),x,y,z])∧c.map D.fg=c
def ky:List D→Int
 | .v (.int .i64 n)::_=>n
 | _=>0
def jq(x y:Int):Int:=if x<y then-1 else if x>y then 1 else 0
theorem tm.len{c:List D}(h:tm c):c.length=4:=by obtain⟨⟨n,x,y,z,rfl⟩,_⟩:=h;rfl
theorem bC{ys:List (List D)}(h:∀ c∈ys,tm c){i:Nat}(hi:i<ys.length):ys[i]?=some ys[i]∧ys[i].length=4:=⟨List.getElem?_eq_getElem hi,(h _ (List.getElem_mem hi)).len⟩
theorem oP{ys:List (List D)}(h:∀ c∈ys,tm c){i:Nat}{d:List D}(hd:tm d):∀ c∈ys.set i d,tm c:=fun c hc=>by
 rcases List.mem_or_eq_of_mem_set hc with h1 | h1
 ·exact h c h1
 ·rw[h1];exact hd
structure Mv(xs ys:List (List D))(a b:Nat):Prop where
 perm:ys.Perm xs
 out:∀ p,p<a∨b≤p→ys[p]?=xs[p]?
 inn:∀ p,a≤p→p<b→∃ q,a≤q∧q<b∧ys[p]?=xs[q]?
theorem Mv.refl(xs:List (List D))(a b:Nat):Mv xs xs a b:=⟨.refl _,fun _ _=>rfl,fun p h1 h2=>⟨p,h1,h2,rfl⟩⟩
theorem Mv.trans{xs ys zs:List (List D)}{a b:Nat}(h:Mv xs ys a b)(h2:Mv ys zs a b):Mv xs zs a b:=
 ⟨h2.perm.trans h.perm,fun p hp=>(h2.out p hp).trans (h.out p hp),fun p h3 h4=>by
  obtain⟨q,q1,q2,q3⟩:=h2.inn p h3 h4;obtain⟨r,r1,r2,r3⟩:=h.inn q q1 q2;exact⟨r,r1,r2,q3.trans r3⟩⟩
theorem Mv.mono{xs ys:List (List D)}{a b a' b':Nat}(h:Mv xs ys a b)(h1:a'≤a)(h2:b≤b'):Mv xs ys a' b':=
 ⟨h.perm,fun p hp=>h.out p (by omega),fun p h3 h4=>by
  by_cases hp:a≤p∧p<b
  ·obtain⟨q,q1,q2,q3⟩:=h.inn p hp.1 hp.2;exact⟨q,by omega,by omega,q3⟩
  ·exact⟨p,h3,h4,h.out p (by omega)⟩⟩
theorem Mv.len{xs ys:List (List D)}{a b:Nat}(h:Mv xs ys a b):ys.length=xs.length:=h.perm.length_eq
theorem Mv.om{xs ys:List (List D)}{a b:Nat}(h:Mv xs ys a b)(hx:∀ c∈xs,tm c):∀ c∈ys,tm c:=fun c hc=>hx c (h.perm.mem_iff.1 hc)
theorem Mv.swap(xs:List (List D)){a b i j:Nat}(hi:a≤i∧i<b)(hj:a≤j∧j<b)(hli:i<xs.length)(hlj:j<xs.length):Mv xs ((xs.set i xs[j]).set j xs[i]) a b:=by
 refine⟨List.set_set_perm hli hlj,fun p hp=>?_,fun p h1 h2=>?_⟩
 ·rw[List.getElem?_set_ne (by omega),List.getElem?_set_ne (by omega)]
 ·by_cases e1:j=p
  ·subst e1;exact⟨i,hi.1,hi.2,by rw[List.getElem?_set_self (by simpa using hlj),List.getElem?_eq_getElem hli]⟩
  ·rw[List.getElem?_set_ne e1];by_cases e2:i=p
   ·subst e2;exact⟨j,hj.1,hj.2,by rw[List.getElem?_set_self hli,List.getElem?_eq_getElem hlj]⟩
   ·rw[List.getElem?_set_ne e2];exact⟨p,h1,h2,rfl⟩
theorem Fy{a b:List D}(ha:tm a)(hb:tm b):Fn Tryz.prog 234 [.g a,.g b] [.d (.v (.int .i64 (jq (ky a) (ky b))))]:=by
 obtain⟨⟨n,x,y,z,rfl⟩,_⟩:=ha;obtain⟨⟨n',x',y',z',rfl⟩,_⟩:=hb;refine Fn.of Tryz.func234 rfl (by kernel_rfl) Tryz.ntmps234 Tryz.results234 rfl fun w0 S0=>?_;refine wk ?_;(first | intro K ms hms hK | intro K hK);refine s1 (fun h1=>?_) (fun h1=>?_)
 ·have:jq n n'= -1:=by unfold jq;rw[if_pos h1]
  refine wk ?_;show dB _ _ _ [.d (.v (.int .i64 (jq n n')))];rw[this];exact⟨.d rfl (.inl rfl),trivial⟩
 ·refine wk ?_;(first | intro K ms hms hK | intro K hK);refine s1 (fun h2=>?_) (fun h2=>?_)
  ·have:jq n n'=1:=by unfold jq;rw[if_neg h1,if_pos h2]
   refine wk ?_;show dB _ _ _ [.d (.v (.int .i64 (jq n n')))];rw[this];exact⟨.d rfl (.inl rfl),trivial⟩
  ·have:jq n n'=0:=by unfold jq;rw[if_neg h1,if_neg h2]
   refine wk ?_;show dB _ _ _ [.d (.v (.int .i64 (jq n n')))];rw[this];exact⟨.d rfl (.inl rfl),trivial⟩
def swapAt(xs ys:List (List D))(a b i:Nat):Prop:=ys.length=xs.length∧∀ j,ys[j]?=if a≤j∧j<a+i then xs[b+(j-a)]? else if b≤j∧j<b+i then xs[a+(j-b)]? else xs[j]?
theorem swapAt.zero(xs:List (List D))(a b:Nat):swapAt xs xs a b 0:=⟨rfl,fun j=>by rw[if_neg (by omega),if_neg (by omega)]⟩
theorem swapAt.step{xs ys:List (List D)}{a b i n:Nat}(h:swapAt xs ys a b i)(hab:a+n≤b)(hb:b+n≤ys.length)(hi:i<n):swapAt xs ((ys.set (a+i) (ys[b+i]'(by omega))).set (b+i) (ys[a+i]'(by omega))) a b (i+1):=by
 refine⟨by simpa using h.1,fun j=>?_⟩;have h1:some (ys[b+i]'(by omega))=xs[b+i]?:=by
  rw[←List.getElem?_eq_getElem,h.2,if_neg (by omega),if_neg (by omega)]
 have h2:some (ys[a+i]'(by omega))=xs[a+i]?:=by
  rw[←List.getElem?_eq_getElem,h.2,if_neg (by omega),if_neg (by omega)]
 rw[List.getElem?_set,List.getElem?_set];by_cases e1:b+i=j
 ·rw[if_pos e1,if_pos (by simp;omega),h2,if_neg (by omega),if_pos (by omega)]
  congr 1;omega
 ·rw[if_neg e1];by_cases e2:a+i=j
  ·rw[if_pos e2,if_pos (by omega),h1,if_pos (by omega)]
   congr 1;omega
  ·rw[if_neg e2,h.2];have q1:(a≤j∧j<a+(i+1))↔(a≤j∧j<a+i):=by omega
   have q2:(b≤j∧j<b+(i+1))↔(b≤j∧j<b+i):=by omega
   simp only[q1,q2]
theorem DC{xs:List (List D)}(hx:∀ c∈xs,tm c){a b n:Nat}(hab:a+n≤b)(hb:b+n≤xs.length)(hlen:xs.length≤1000000000)(f:D):FnS Tryz.prog 287 161 4 xs [.d (.v (.int .i64 (a:Int))),.d (.v (.int .i64 (b:Int))),.d (.v (.int .i64 (n:Int))),.d f] (fun ys=>swapAt xs ys a b n∧Mv xs ys a (b+n)):=by
 refine FnS.of Tryz.func287 rfl (by kernel_rfl) Tryz.ntmps287 Tryz.results287 rfl fun w0 S0 v=>?_;refine wk ?_;refine AC.loop (X:=Nat×List (List D)) (fun x=>⟨[(0,.r 38 0),(1,.d (.v (.int .i64 (a:Int)))),(2,.d (.v (.int .i64 (b:Int)))),(3,.d (.v (.int .i64 (n:Int)))),(10,.d (.v (.int .i64 (x.1:Int))))],[(38,.row 0 161 4 x.2)]⟩) (fun x=>x.1≤n∧swapAt xs x.2 a b x.1∧Mv xs x.2 a (b+n)) (fun x=>n-x.1) (0,xs) ⟨Nat.zero_le _,.zero _ _ _,.refl _ _ _⟩ ⟨rfl,rfl,rfl,rfl,rfl,trivial⟩ ⟨rfl,trivial⟩ ?_;rintro ⟨i,ys⟩ ⟨hi,hsw,hmv⟩;dsimp only at hi hsw hmv ⊢;have hy:=hmv.om hx;have hyl:=hsw.1;refine wk ?_;(first | intro K ms hms hK | intro K hK);refine s1 (fun h1=>?_) (fun h1=>?_)
 ·refine wk ?_;((try (first | intro K ms hms hK | intro K hK));(first | apply Ch.go | apply Ch.ah);exact rfl;exact rfl;exact Loc.dC rfl rfl rfl (bC hy (i:=b+i) (by omega)) rfl);refine wk ?_;((try (first | intro K ms hms hK | intro K hK));(first | apply Ch.go | apply Ch.ah);exact rfl;exact rfl;exact Loc.dC rfl rfl rfl (bC hy (i:=a+i) (by omega)) rfl);refine wk ?_;((try (first | intro K ms hms hK | intro K hK));(first | apply Ch.st | apply Ch.aU);exact rfl;exact rfl;exact Do.iW rfl rfl rfl ⟨_,bC hy (i:=a+i) (by omega)⟩ rfl ⟨(hy _ (List.getElem_mem _)).2,(hy _ (List.getElem_mem _)).len⟩ rfl rfl rfl;exact rfl;exact rfl);have hy1:∀ c∈ys.set (a+i) (ys[b+i]'(by omega)),tm c:=oP hy (hy _ (List.getElem_mem _));have hl1:(ys.set (a+i) (ys[b+i]'(by omega))).length=ys.length:=by simp
  refine wk ?_;((try (first | intro K ms hms hK | intro K hK));(first | apply Ch.st | apply Ch.aU);exact rfl;exact rfl;exact Do.iW rfl rfl rfl ⟨_,bC hy1 (i:=b+i) (by omega)⟩ rfl ⟨(hy _ (List.getElem_mem _)).2,(hy _ (List.getElem_mem _)).len⟩ rfl rfl rfl;exact rfl;exact rfl);refine wk ?_;exact⟨(i+1,_),⟨by omega,hsw.step (n:=n) (by omega) (by omega) (by omega),hmv.trans (.swap ys (by omega) (by omega) (by omega) (by omega))⟩,by dsimp only;omega,⟨rfl,rfl,rfl,rfl,rfl,trivial⟩,⟨rfl,trivial⟩⟩
 ·refine wk ?_;have:i=n:=by omega
  subst this;exact⟨ys,⟨hsw,hmv⟩,rfl⟩
theorem iv{x y:Int}(h:x=y):some (AV.d (D.v (Value.int .i64 x)))=some (AV.d (D.v (Value.int .i64 y))):=by rw[h]
theorem uP{xs:List (List D)}(hx:∀ c∈xs,tm c){a b n:Nat}{A B N:Int}(hA:A=(a:Int))(hB:B=(b:Int))(hN:N=(n:Int))(hab:a+n≤b)(hb:b+n≤xs.length)(hlen:xs.length≤1000000000)(f:D):FnS Tryz.prog 287 161 4 xs [.d (.v (.int .i64 A)),.d (.v (.int .i64 B)),.d (.v (.int .i64 N)),.d f] (fun ys=>swapAt xs ys a b n∧Mv xs ys a (b+n)):=by
 subst hA hB hN;exact DC hx hab hb hlen f
def sd(a b n p:Nat):Nat:=if a≤p∧p<a+n then b+(p-a)else if b≤p∧p<b+n then a+(p-b)else p
theorem swapAt.idx{xs ys:List (List D)}{a b n:Nat}(h:swapAt xs ys a b n)(p:Nat):ys[p]?=xs[sd a b n p]?:=by
 rw[h.2];unfold sd;split
 ·rfl
 ·split<;>rfl
def gE(lo m hi p:Nat):Nat:=if lo≤p∧p<lo+(hi-m)then p+(m-lo)else if lo+(hi-m)≤p∧p<hi then p-(hi-m)else p
theorem C1{m i j:Nat}(hi:i≤m)(hj:1≤j)(h:j<i)(p:Nat):sd (m-i) m j (gE (m-(i-j)) m (m+j) p)=gE (m-i) m (m+j) p:=by
 unfold gE
 repeat' split
 all_goals (unfold sd;repeat' split)
 all_goals omega
theorem CW{m i j:Nat}(hi:i≤m)(hj:1≤i)(h:i<j)(p:Nat):sd (m-i) (m+j-i) i (gE (m-i) m (m+(j-i)) p)=gE (m-i) m (m+j) p:=by
 unfold gE
 repeat' split
 all_goals (unfold sd;repeat' split)
 all_goals omega
theorem CO{m i:Nat}(hi:i≤m)(p:Nat):sd (m-i) m i p=gE (m-i) m (m+i) p:=by
 unfold gE
 repeat' split
 all_goals (unfold sd;repeat' split)
 all_goals omega
def sy(xs ys:List (List D))(a m b:Nat):Prop:=ys.length=xs.length∧∀ p,ys[p]?=xs[gE a m b p]?
theorem Fe{xs:List (List D)}(hx:∀ c∈xs,tm c){a m b:Nat}(ham:a<m)(hmb:m<b)(hb:b≤xs.length)(hlen:xs.length≤1000000000)(f:D):FnS Tryz.prog 286 161 4 xs [.d (.v (.int .i64 (a:Int))),.d (.v (.int .i64 (m:Int))),.d (.v (.int .i64 (b:Int))),.d f] (fun ys=>sy xs ys a m b∧Mv xs ys a b):=by
 refine FnS.of Tryz.func286 rfl (by kernel_rfl) Tryz.ntmps286 Tryz.results286 rfl fun w0 S0 v=>?_;refine wk ?_;refine AC.loop (X:=Nat×Nat×List (List D)) (fun x=>⟨[(0,.r 58 0),(1,.d (.v (.int .i64 (a:Int)))),(2,.d (.v (.int .i64 (m:Int)))),(3,.d (.v (.int .i64 (b:Int)))),(4,.d f),(10,.d (.v (.int .i64 (x.1:Int)))),(11,.d (.v (.int .i64 (x.2.1:Int))))],[(58,.row 0 161 4 x.2.2)]⟩) (fun x=>1≤x.1∧x.1+a≤m∧1≤x.2.1∧m+x.2.1≤b∧x.2.2.length=xs.length∧(∀p,x.2.2[gE (m-x.1) m (m+x.2.1) p]?=xs[gE a m b p]?)∧Mv xs x.2.2 a b) (fun x=>x.1+x.2.1) (m-a,b-m,xs) ⟨by dsimp only;omega,by dsimp only;omega,by dsimp only;omega,by dsimp only;omega,rfl,fun p=>by dsimp only;rw[show m-(m-a)=a by omega,show m+(b-m)=b by omega],.refl _ _ _⟩ ⟨rfl,rfl,rfl,rfl,rfl,iv (by dsimp only;omega),iv (by dsimp only;omega),trivial⟩ ⟨rfl,trivial⟩ ?_;rintro ⟨i,j,ys⟩ ⟨hi,him,hj,hjm,hyl,hrot,hmv⟩;dsimp only at hi him hj hjm hyl hrot hmv ⊢;have hy:=hmv.om hx;refine wk ?_;(first | intro K ms hms hK | intro K hK);refine s1 (fun h1=>?_) (fun h1=>?_)
 ·refine wk ?_;(first | intro K ms hms hK | intro K hK);refine s1 (fun h2=>?_) (fun h2=>?_)
  ·refine wk ?_;((try (first | intro K ms hms hK | intro K hK));refine Ch.gq rfl rfl (uP (a:=m-i) (b:=m) (n:=j) hy (show (m:Int)-(i:Int)=((m-i:Nat):Int)by omega) rfl rfl (by omega) (by omega) (by omega) f) rfl rfl rfl ?_ ?_;(focus ((repeat (first | exact trivial | refine⟨.inl rfl,?_⟩ | refine⟨.inr rfl,?_⟩)))));rintro zs ⟨hsw,hz⟩;refine wk ?_;exact⟨(i-j,j,zs),⟨by dsimp only;omega,by dsimp only;omega,hj,hjm,hsw.1.trans hyl,fun p=>by dsimp only;rw[hsw.idx,C1 (by omega) hj (by omega),hrot],hmv.trans (hz.mono (by omega) (by omega))⟩,by dsimp only;omega,⟨rfl,rfl,rfl,rfl,rfl,iv (by dsimp only;omega),rfl,trivial⟩,⟨rfl,trivial⟩⟩
  ·refine wk ?_;((try (first | intro K ms hms hK | intro K hK));refine Ch.gq rfl rfl (uP (a:=m-i) (b:=m+j-i) (n:=i) hy (show (m:Int)-(i:Int)=((m-i:Nat):Int)by omega) (show (m:Int)+(j:Int)-(i:Int)=((m+j-i:Nat):Int)by omega) rfl (by omega) (by omega) (by omega) f) rfl rfl rfl ?_ ?_;(focus ((repeat (first | exact trivial | refine⟨.inl rfl,?_⟩ | refine⟨.inr rfl,?_⟩)))));rintro zs ⟨hsw,hz⟩;refine wk ?_;exact⟨(i,j-i,zs),⟨hi,him,by dsimp only;omega,by dsimp only;omega,hsw.1.trans hyl,fun p=>by dsimp only;rw[hsw.idx,CW (by omega) hi (by omega),hrot],hmv.trans (hz.mono (by omega) (by omega))⟩,by dsimp only;omega,⟨rfl,rfl,rfl,rfl,rfl,rfl,iv (by dsimp only;omega),trivial⟩,⟨rfl,trivial⟩⟩
 ·have hij:i=j:=by omega
  subst hij;refine wk ?_;((try (first | intro K ms hms hK | intro K hK));refine Ch.gq rfl rfl (uP (a:=m-i) (b:=m) (n:=i) hy (show (m:Int)-(i:Int)=((m-i:Nat):Int)by omega) rfl rfl (by omega) (by omega) (by omega) f) rfl rfl rfl ?_ ?_;(focus ((repeat (first | exact trivial | refine⟨.inl rfl,?_⟩ | refine⟨.inr rfl,?_⟩)))));rintro zs ⟨hsw,hz⟩;refine wk ?_;exact⟨zs,⟨⟨hsw.1.trans hyl,fun p=>by rw[hsw.idx,CO (by omega),hrot]⟩,hmv.trans (hz.mono (by omega) (by omega))⟩,rfl⟩
end Go.Proofs.YthdkkpocihkgbaaGreatDoor
namespace Go.Proofs.YthdkkpocihkgbaaGreatDoor
open Go.RowKit
attribute [local irreducible] AC Do St
def aV(xs:List (List D))(p:Nat):Int:=ky (xs[p]?.getD [])
theorem im{xs ys:List (List D)}{p q:Nat}(h:ys[p]?=xs[q]?):aV ys p=aV xs q:=by unfold aV;rw[h]
theorem oC{xs:List (List D)}{p:Nat}(h:p<xs.length):ky xs[p]=aV xs p:=by unfold aV;rw[List.getElem?_eq_getElem h];rfl
theorem mP{xs:List (List D)}{i j:Nat}(hli:i<xs.length)(hlj:j<xs.length)(p:Nat):aV ((xs.set i xs[j]).set j xs[i]) p=if p=j then aV xs i else if p=i then aV xs j else aV xs p:=by
 unfold aV;by_cases e1:p=j
 ·subst e1;rw[if_pos rfl,List.getElem?_set_self (by simpa using hlj),List.getElem?_eq_getElem hli]
 ·rw[if_neg e1,List.getElem?_set_ne (Ne.symm e1)];by_cases e2:p=i
  ·subst e2;rw[if_pos rfl,List.getElem?_set_self hli,List.getElem?_eq_getElem hlj]
  ·rw[if_neg e2,List.getElem?_set_ne (Ne.symm e2)]
def SrtR(xs:List (List D))(a b:Nat):Prop:=∀ p q,a≤p→p<q→q<b→aV xs p≤aV xs q
theorem ff(x y:Int):jq x y<0↔x<y:=by
 unfold jq;split
 ·omega
 ·split<;>omega
def InsI(ys:List (List D))(a i j:Nat):Prop:=∀ p q,a≤p→p<q→q≤i→q≠j→aV ys p≤aV ys q
theorem InsI.step{ys:List (List D)}{a i j:Nat}(h:InsI ys a i j)(hj:a<j)(hji:j≤i)(hl:i<ys.length)(hk:aV ys j<aV ys (j-1)):InsI ((ys.set j (ys[j-1]'(by omega))).set (j-1) (ys[j]'(by omega))) a i (j-1):=by
 intro p q h1 h2 h3 h4;rw[mP (by omega) (by omega),mP (by omega) (by omega),if_neg h4];by_cases e1:q=j
 ·rw[if_pos e1];by_cases e2:p=j-1
  ·rw[if_pos e2];omega
  ·rw[if_neg e2,if_neg (by omega)];exact h p (j-1) h1 (by omega) (by omega) (by omega)
 ·rw[if_neg e1];by_cases e2:p=j-1
  ·rw[if_pos e2];exact h j q (by omega) (by omega) h3 e1
  ·rw[if_neg e2];by_cases e3:p=j
   ·rw[if_pos e3];exact h (j-1) q (by omega) (by omega) h3 e1
   ·rw[if_neg e3];exact h p q h1 h2 h3 e1
theorem InsI.done{ys:List (List D)}{a i j:Nat}(h:InsI ys a i j)(hk:j≤a∨aV ys (j-1)≤aV ys j):SrtR ys a (i+1):=by
 intro p q h1 h2 h3;by_cases e:q=j
 ·rcases hk with hk | hk
  ·omega
  ·subst e;by_cases e2:p=q-1
   ·subst e2;exact hk
   ·exact Int.le_trans (h p (q-1) h1 (by omega) (by omega) (by omega)) hk
 ·exact h p q h1 h2 (by omega) e
theorem qA{zs:List (List D)}(hz:∀ c∈zs,tm c){i j:Nat}(hi:i<zs.length)(hj:j<zs.length):Fn Tryz.prog 234 [.g zs[i],.g zs[j]] [.d (.v (.int .i64 (jq (aV zs i) (aV zs j))))]:=by
 rw[←oC hi,←oC hj];exact Fy (hz _ (List.getElem_mem _)) (hz _ (List.getElem_mem _))
def fl:D:= .v (.func (.func 234) #[] #[])
theorem Fw{xs:List (List D)}(hx:∀ c∈xs,tm c){a b:Nat}(hab:a≤b)(hb:b≤xs.length)(hlen:xs.length≤1000000000):FnS Tryz.prog 277 161 4 xs [.d (.v (.int .i64 (a:Int))),.d (.v (.int .i64 (b:Int))),.d fl] (fun ys=>Mv xs ys a b∧SrtR ys a b):=by
 refine FnS.of Tryz.func277 rfl (by kernel_rfl) Tryz.ntmps277 Tryz.results277 rfl fun w0 S0 v=>?_;refine wk ?_;refine AC.loop (X:=Nat×List (List D)) (fun x=>⟨[(0,.r 53 0),(1,.d (.v (.int .i64 (a:Int)))),(2,.d (.v (.int .i64 (b:Int)))),(3,.d fl),(8,.d (.v (.int .i64 ((x.1:Nat):Int))))],[(53,.row 0 161 4 x.2)]⟩) (fun x=>a+1≤x.1∧Mv xs x.2 a b∧SrtR x.2 a x.1) (fun x=>b-x.1) (a+1,xs) ⟨Nat.le_refl _,.refl _ _ _,fun p q h1 h2 h3=>by dsimp only at *;omega⟩ ⟨rfl,rfl,rfl,rfl,iv (by dsimp only;omega),trivial⟩ ⟨rfl,trivial⟩ ?_;rintro ⟨i,ys⟩ ⟨hi,hmv,hs⟩;dsimp only at hi hmv hs ⊢;refine wk ?_;(first | intro K ms hms hK | intro K hK);refine s1 (fun h1=>?_) (fun h1=>?_)
 ·refine wk ?_;refine AC.loop (X:=Nat×List (List D)) (fun x=>⟨[(0,.r 53 0),(1,.d (.v (.int .i64 (a:Int)))),(2,.d (.v (.int .i64 (b:Int)))),(3,.d fl),(8,.d (.v (.int .i64 (i:Int)))),(9,.d (.v (.int .i64 ((x.1:Nat):Int))))],[(53,.row 0 161 4 x.2)]⟩) (fun x=>a≤x.1∧x.1≤i∧Mv xs x.2 a b∧InsI x.2 a i x.1) (fun x=>x.1) (i,ys) ⟨by dsimp only;omega,Nat.le_refl _,hmv,fun p q h1 h2 h3 h4=>hs p q h1 h2 (by dsimp only at *;omega)⟩ ⟨rfl,rfl,rfl,rfl,rfl,rfl,trivial⟩ ⟨rfl,trivial⟩ ?_;rintro ⟨j,zs⟩ ⟨hj,hji,hmz,hin⟩;dsimp only at hj hji hmz hin ⊢;have hz:=hmz.om hx;have hzl:=hmz.len;refine wk ?_;(first | intro K ms hms hK | intro K hK);refine s1 (fun h2=>?_) (fun h2=>?_)
  ·refine wk ?_;((try (first | intro K ms hms hK | intro K hK));(first | apply Ch.go | apply Ch.ah);exact rfl;exact rfl;exact Loc.dC rfl rfl rfl (bC hz (i:=j) (by omega)) rfl);refine wk ?_;((try (first | intro K ms hms hK | intro K hK));(first | apply Ch.go | apply Ch.ah);exact rfl;exact rfl;exact Loc.cB (i:=j-1) rfl rfl rfl rfl (by omega) (by omega) rfl);refine wk ?_;((try (first | intro K ms hms hK | intro K hK));(first | apply Ch.go | apply Ch.ah);exact rfl;exact rfl;exact Loc.dC rfl rfl rfl (bC hz (i:=j-1) (by omega)) rfl);refine wk ?_;((try (first | intro K ms hms hK | intro K hK));(first | apply Ch.go | apply Ch.ah);exact rfl;exact rfl;refine Loc.ou (qA hz (i:=j) (j:=j-1) (by omega) (by omega)) rfl rfl ?_;(repeat (first | exact trivial | refine⟨.inl rfl,?_⟩ | refine⟨.inr rfl,?_⟩)));refine wk ?_;refine s1 (fun h3=>?_) (fun h3=>?_)
   ·rw[ff]at h3;refine wk ?_;((try (first | intro K ms hms hK | intro K hK));(first | apply Ch.go | apply Ch.ah);exact rfl;exact rfl;exact Loc.cB (i:=j-1) rfl rfl rfl rfl (by omega) (by omega) rfl);refine wk ?_;((try (first | intro K ms hms hK | intro K hK));(first | apply Ch.go | apply Ch.ah);exact rfl;exact rfl;exact Loc.dC rfl rfl rfl (bC hz (i:=j-1) (by omega)) rfl);refine wk ?_;((try (first | intro K ms hms hK | intro K hK));(first | apply Ch.go | apply Ch.ah);exact rfl;exact rfl;exact Loc.dC rfl rfl rfl (bC hz (i:=j) (by omega)) rfl);refine wk ?_;((try (first | intro K ms hms hK | intro K hK));(first | apply Ch.st | apply Ch.aU);exact rfl;exact rfl;exact Do.iW rfl rfl rfl ⟨_,bC hz (i:=j) (by omega)⟩ rfl ⟨(hz _ (List.getElem_mem _)).2,(hz _ (List.getElem_mem _)).len⟩ rfl rfl rfl;exact rfl;exact rfl);have hy1:∀ c∈zs.set j (zs[j-1]'(by omega)),tm c:=oP hz (hz _ (List.getElem_mem _));have hl1:(zs.set j (zs[j-1]'(by omega))).length=zs.length:=by simp
    ((try (first | intro K ms hms hK | intro K hK));(first | apply Ch.go | apply Ch.ah);exact rfl;exact rfl;exact Loc.cB (i:=j-1) rfl rfl rfl rfl (by omega) (by omega) rfl);refine wk ?_;((try (first | intro K ms hms hK | intro K hK));(first | apply Ch.st | apply Ch.aU);exact rfl;exact rfl;exact Do.iW rfl rfl rfl ⟨_,bC hy1 (i:=j-1) (by omega)⟩ rfl ⟨(hz _ (List.getElem_mem _)).2,(hz _ (List.getElem_mem _)).len⟩ rfl rfl rfl;exact rfl;exact rfl);refine wk ?_;exact⟨(j-1,_),⟨by dsimp only;omega,by dsimp only;omega,hmz.trans (.swap zs (by omega) (by omega) (by omega) (by omega)),hin.step (by omega) hji (by omega) h3⟩,by dsimp only;omega,⟨rfl,rfl,rfl,rfl,rfl,iv (by dsimp only;omega),trivial⟩,⟨rfl,trivial⟩⟩
   ·rw[ff]at h3;refine wk ?_;exact⟨(i+1,zs),⟨by dsimp only;omega,hmz,hin.done (.inr (by omega))⟩,by dsimp only;omega,⟨rfl,rfl,rfl,rfl,rfl,trivial⟩,⟨rfl,trivial⟩⟩
  ·refine wk ?_;exact⟨(i+1,zs),⟨by dsimp only;omega,hmz,hin.done (.inl (by omega))⟩,by dsimp only;omega,⟨rfl,rfl,rfl,rfl,rfl,trivial⟩,⟨rfl,trivial⟩⟩
 ·refine wk ?_;exact⟨ys,⟨hmv,fun p q h2 h3 h4=>hs p q h2 h3 (by omega)⟩,rfl⟩
end Go.Proofs.YthdkkpocihkgbaaGreatDoor
namespace Go.Proofs.YthdkkpocihkgbaaGreatDoor
open Go.RowKit
attribute [local irreducible] AC Do St
theorem SrtR.le{xs:List (List D)}{a b:Nat}(h:SrtR xs a b){p q:Nat}(h1:a≤p)(h2:p≤q)(h3:q<b):aV xs p≤aV xs q:=by
 rcases Nat.lt_or_ge p q with h4 | h4
 ·exact h p q h1 h4 h3
 ·rw[show p=q by omega];exact Int.le_refl _
theorem xP{xs zs:List (List D)}{a b i:Nat}(hB:SrtR xs (a+1) b)(h1:a+1≤i)(h2:i≤b)(l:i=a+1∨aV xs (i-1)<aV xs a)(r:i=b∨aV xs a≤aV xs i)(hz:∀ p,aV zs p=aV xs (if a≤p∧p<i-1 then p+1 else if p=i-1 then a else p)):SrtR zs a b:=by
 intro p q hp hpq hq;rw[hz p,hz q];by_cases c1:p<i-1
 ·rw[if_pos ⟨hp,c1⟩];by_cases c2:q<i-1
  ·rw[if_pos ⟨by omega,c2⟩];exact hB.le (by omega) (by omega) (by omega)
  ·rw[if_neg (by omega)];by_cases c3:q=i-1
   ·rw[if_pos c3];have:=hB.le (p:=p+1) (q:=i-1) (by omega) (by omega) (by omega);omega
   ·rw[if_neg c3];exact hB.le (by omega) (by omega) hq
 ·rw[if_neg (by omega),if_neg (show ¬(a≤q∧q<i-1)by omega),if_neg (show ¬q=i-1 by omega)];by_cases c3:p=i-1
  ·rw[if_pos c3];have:=hB.le (p:=i) (q:=q) (by omega) (by omega) hq;omega
  ·rw[if_neg c3];exact hB.le (by omega) (by omega) hq
theorem yJ{xs zs:List (List D)}{a m i:Nat}(hA:SrtR xs a m)(h1:a≤i)(h2:i≤m)(l:i=a∨aV xs (i-1)≤aV xs m)(r:i=m∨aV xs m<aV xs i)(hz:∀ p,aV zs p=aV xs (if i<p∧p≤m then p-1 else if p=i then m else p)):SrtR zs a (m+1):=by
 intro p q hp hpq hq;rw[hz p,hz q];by_cases c1:i<p
 ·rw[if_pos (by omega),if_pos (by omega)];exact hA.le (by omega) (by omega) (by omega)
 ·rw[if_neg (show ¬(i<p∧p≤m)by omega)];by_cases c3:p=i
  ·rw[if_pos c3,if_pos (by omega)];have:=hA.le (p:=i) (q:=q-1) (by omega) (by omega) (by omega);omega
  ·rw[if_neg c3];by_cases c2:i<q
   ·rw[if_pos (by omega)];exact hA.le (by omega) (by omega) (by omega)
   ·rw[if_neg (by omega)];by_cases c4:q=i
    ·rw[if_pos c4];have:=hA.le (p:=p) (q:=i-1) (by omega) (by omega) (by omega);omega
    ·rw[if_neg c4];exact hA.le (by omega) (by omega) (by omega)
theorem oI{s m e:Nat}(h:s=m∨e=m)(h1:s≤m)(h2:m≤e)(p:Nat):gE s m e p=p:=by
 unfold gE;split
 ·omega
 ·split<;>omega
theorem rB{xs zs:List (List D)}{a m b s e mid:Nat}(hA:SrtR xs a m)(hB:SrtR xs m b)(hz:∀ p,aV zs p=aV xs (gE s m e p))(h1:a≤s)(h2:s≤m)(h3:m≤e)(h4:e≤b)(he:e+s=mid+m)(hs:s≤mid)(F1:s=a∨e=b∨aV xs (s-1)≤aV xs e)(F2:s=m∨e=m∨aV xs (e-1)≤aV xs s):
  SrtR zs a s∧SrtR zs s mid∧SrtR zs mid e∧SrtR zs e b∧∀ p q,a≤p→p<mid→mid≤q→q<b→aV zs p≤aV zs q:=by
 have z1:∀ p,p<s→aV zs p=aV xs p:=fun p h=>by rw[hz,gE,if_neg (by omega),if_neg (by omega)]
 have z2:∀ p,s≤p→p<mid→aV zs p=aV xs (p+(m-s)):=fun p h h'=>by rw[hz,gE,if_pos (by omega)]
 have z3:∀ p,mid≤p→p<e→aV zs p=aV xs (p-(e-m)):=fun p h h'=>by rw[hz,gE,if_neg (by omega),if_pos (by omega)]
 have z4:∀ p,e≤p→aV zs p=aV xs p:=fun p h=>by rw[hz,gE,if_neg (by omega),if_neg (by omega)]
 refine⟨fun p q g1 g2 g3=>?_,fun p q g1 g2 g3=>?_,fun p q g1 g2 g3=>?_,fun p q g1 g2 g3=>?_,fun p q g1 g2 g3 g4=>?_⟩
 ·rw[z1 p (by omega),z1 q (by omega)];exact hA.le g1 (by omega) (by omega)
 ·rw[z2 p g1 (by omega),z2 q (by omega) g3];exact hB.le (by omega) (by omega) (by omega)
 ·rw[z3 p g1 (by omega),z3 q (by omega) g3];exact hA.le (by omega) (by omega) (by omega)
 ·rw[z4 p g1,z4 q (by omega)];exact hB.le (by omega) (by omega) (by omega)
 ·by_cases c1:p<s
  ·rw[z1 p c1];by_cases c2:q<e
   ·rw[z3 q g3 c2];exact hA.le g1 (by omega) (by omega)
   ·rw[z4 q (by omega)];have q1:=hA.le (p:=p) (q:=s-1) g1 (by omega) (by omega);have q2:=hB.le (p:=e) (q:=q) (by omega) (by omega) g4;omega
  ·rw[z2 p (by omega) g2];by_cases c2:q<e
   ·rw[z3 q g3 c2];have q1:=hB.le (p:=p+(m-s)) (q:=e-1) (by omega) (by omega) (by omega);have q2:=hA.le (p:=s) (q:=q-(e-m)) (by omega) (by omega) (by omega);omega
   ·rw[z4 q (by omega)];exact hB.le (by omega) (by omega) g4
theorem gB{zs us vs:List (List D)}{a mid b:Nat}(hX:∀ p q,a≤p→p<mid→mid≤q→q<b→aV zs p≤aV zs q)(h1:Mv zs us a mid)(s1:SrtR us a mid)(h2:Mv us vs mid b)(s2:SrtR vs mid b):SrtR vs a b:=by
 intro p q hp hpq hq;by_cases c1:q<mid
 ·rw[im (h2.out p (by omega)),im (h2.out q (by omega))];exact s1 p q hp hpq c1
 ·by_cases c2:mid≤p
  ·exact s2 p q c2 hpq hq
  ·rw[im (h2.out p (by omega))];obtain⟨p',p1,p2,p3⟩:=h1.inn p hp (by omega);obtain⟨q',q1,q2,q3⟩:=h2.inn q (by omega) hq;rw[im p3,im q3,im (h1.out q' (by omega))];exact hX p' q' p1 p2 q1 q2
theorem SrtR.mv{xs ys:List (List D)}{a b c d:Nat}(h:SrtR xs c d)(hm:Mv xs ys a b)(ho:d≤a∨b≤c):SrtR ys c d:=fun p q h1 h2 h3=>by
 rw[im (hm.out p (by omega)),im (hm.out q (by omega))];exact h p q h1 h2 h3
theorem SrtR.one(xs:List (List D)){a b:Nat}(h:b≤a+1):SrtR xs a b:=fun p q h1 h2 h3=>by omega
theorem yl{xs zs:List (List D)}{a k:Nat}(hk:a≤k)(hl:k+1<zs.length)(h:∀ p,aV zs p=aV xs (if a≤p∧p<k then p+1 else if p=k then a else p))(p:Nat):
  aV ((zs.set k (zs[k+1]'hl)).set (k+1) (zs[k]'(by omega))) p=aV xs (if a≤p∧p<k+1 then p+1 else if p=k+1 then a else p):=by
 rw[mP];have e1:=h k;rw[if_neg (by omega),if_pos rfl]at e1;have e2:=h (k+1);rw[if_neg (by omega),if_neg (by omega)]at e2;by_cases c1:p=k+1
 ·rw[if_pos c1,e1,if_neg (by omega),if_pos c1]
 ·by_cases c2:p=k
  ·rw[if_neg c1,if_pos c2,e2,if_pos (by omega),c2]
  ·rw[if_neg c1,if_neg c2,h p];by_cases c3:a≤p∧p<k
   ·rw[if_pos c3,if_pos (by omega)]
   ·rw[if_neg c3,if_neg c2,if_neg (by omega),if_neg c1]
theorem yI{xs zs:List (List D)}{m k:Nat}(hk:0<k)(hm:k≤m)(hl:k<zs.length)(h:∀ p,aV zs p=aV xs (if k<p∧p≤m then p-1 else if p=k then m else p))(p:Nat):
  aV ((zs.set k (zs[k-1]'(by omega))).set (k-1) (zs[k]'hl)) p=aV xs (if k-1<p∧p≤m then p-1 else if p=k-1 then m else p):=by
 rw[mP];have e1:=h k;rw[if_neg (by omega),if_pos rfl]at e1;have e2:=h (k-1);rw[if_neg (by omega),if_neg (by omega)]at e2;by_cases c1:p=k-1
 ·rw[if_pos c1,e1,if_neg (by omega),if_pos c1]
 ·by_cases c2:p=k
  ·rw[if_neg c1,if_pos c2,e2,if_pos (by omega),c2]
  ·rw[if_neg c1,if_neg c2,h p];by_cases c3:k<p∧p≤m
   ·rw[if_pos c3,if_pos (by omega)]
   ·rw[if_neg c3,if_neg c2,if_neg (by omega),if_neg c1]
theorem jV{x:Int}(h:0≤x)(h2:x<9223372036854775808):IntKind.wrap .i64 (x / 2)=x / 2:=IntWalk.i64_in _ (by omega)
theorem AI{xs:List (List D)}(hx:∀ c∈xs,tm c){a m b:Nat}{A M B:Int}(hA:A=(a:Int))(hM:M=(m:Int))(hB:B=(b:Int))(ham:a<m)(hmb:m<b)(hb:b≤xs.length)(hlen:xs.length≤1000000000)(f:D):FnS Tryz.prog 286 161 4 xs [.d (.v (.int .i64 A)),.d (.v (.int .i64 M)),.d (.v (.int .i64 B)),.d f] (fun ys=>sy xs ys a m b∧Mv xs ys a b):=by
 subst hA hM hB;exact Fe hx ham hmb hb hlen f
abbrev SymC(xs:List (List D))(a m b:Nat):Prop:=FnS Tryz.prog 278 161 4 xs [.d (.v (.int .i64 (a:Int))),.d (.v (.int .i64 (m:Int))),.d (.v (.int .i64 (b:Int))),.d fl] (fun ys=>Mv xs ys a b∧SrtR ys a b)
theorem SymC.cast{xs:List (List D)}{a m b:Nat}(h:SymC xs a m b){A M B:Int}(hA:A=(a:Int))(hM:M=(m:Int))(hB:B=(b:Int)):FnS Tryz.prog 278 161 4 xs [.d (.v (.int .i64 A)),.d (.v (.int .i64 M)),.d (.v (.int .i64 B)),.d fl] (fun ys=>Mv xs ys a b∧SrtR ys a b):=by
 subst hA hM hB;exact h
theorem BJ{xs:List (List D)}(hx:∀ c∈xs,tm c){a m b:Nat}(ham:a<m)(hmb:m<b)(hb:b≤xs.length)(hlen:xs.length≤1000000000)(hA:SrtR xs a m)(hB:SrtR xs m b)
  (ih:∀ (ys:List (List D)) (a' m' b':Nat),(∀c∈ys,tm c)→b'-a'<b-a→a'<m'→m'<b'→b'≤ys.length→ys.length≤1000000000→SrtR ys a' m'→SrtR ys m' b'→SymC ys a' m' b'):SymC xs a m b:=by
 refine FnS.of Tryz.func278 rfl (by kernel_rfl) Tryz.ntmps278 Tryz.results278 rfl fun w0 S0 v=>?_;refine wk ?_;(first | intro K ms hms hK | intro K hK);refine s1 (fun h1=>?_) (fun h1=>?_)
 ·have hm:m=a+1:=by omega
  subst hm;refine wk ?_;refine AC.loop (X:=Nat×Nat) (fun x=>⟨[(0,.r 220 0),(1,.d (.v (.int .i64 (a:Int)))),(2,.d (.v (.int .i64 ((a+1:Nat):Int)))),(3,.d (.v (.int .i64 (b:Int)))),(4,.d fl),(10,.d (.v (.int .i64 ((x.1:Nat):Int)))),(11,.d (.v (.int .i64 ((x.2:Nat):Int))))],[(220,.row 0 161 4 xs)]⟩) (fun x=>a+1≤x.1∧x.1≤x.2∧x.2≤b∧(x.1=a+1∨aV xs (x.1-1)<aV xs a)∧(x.2=b∨aV xs a≤aV xs x.2)) (fun x=>x.2-x.1) (a+1,b) ⟨Nat.le_refl _,by dsimp only;omega,Nat.le_refl _,.inl rfl,.inl rfl⟩ ⟨rfl,rfl,rfl,rfl,rfl,rfl,rfl,trivial⟩ ⟨rfl,trivial⟩ ?_;rintro ⟨i,j⟩ ⟨hi,hij,hjb,hl,hr⟩;dsimp only at hi hij hjb hl hr ⊢;refine wk ?_;(first | intro K ms hms hK | intro K hK);refine s1 (fun h2=>?_) (fun h2=>?_)
  ·refine wk ?_;((try (first | intro K ms hms hK | intro K hK));(first | apply Ch.go | apply Ch.ah);exact rfl;exact rfl;exact Loc.conv rfl rfl (wrap_u64 (by omega) (by omega)));((try (first | intro K ms hms hK | intro K hK));(first | apply Ch.go | apply Ch.ah);exact rfl;exact rfl;exact Loc.u4 rfl rfl rfl);((try (first | intro K ms hms hK | intro K hK));(first | apply Ch.go | apply Ch.ah);exact rfl;exact rfl;exact Loc.conv rfl rfl (jV (by omega) (by omega)));refine wk ?_;((try (first | intro K ms hms hK | intro K hK));(first | apply Ch.go | apply Ch.ah);exact rfl;exact rfl;exact Loc.cB (i:=(i+j) / 2) rfl rfl rfl rfl (by omega) (by omega) rfl);refine wk ?_;((try (first | intro K ms hms hK | intro K hK));(first | apply Ch.go | apply Ch.ah);exact rfl;exact rfl;exact Loc.dC rfl rfl rfl (bC hx (i:=(i+j) / 2) (by omega)) rfl);refine wk ?_;((try (first | intro K ms hms hK | intro K hK));(first | apply Ch.go | apply Ch.ah);exact rfl;exact rfl;exact Loc.dC rfl rfl rfl (bC hx (i:=a) (by omega)) rfl);((try (first | intro K ms hms hK | intro K hK));(first | apply Ch.go | apply Ch.ah);exact rfl;exact rfl;refine Loc.ou (qA hx (i:=(i+j) / 2) (j:=a) (by omega) (by omega)) rfl rfl ?_;(repeat (first | exact trivial | refine⟨.inl rfl,?_⟩ | refine⟨.inr rfl,?_⟩)));refine s1 (fun h3=>?_) (fun h3=>?_)
   ·rw[ff]at h3;refine wk ?_;exact⟨((i+j) / 2+1,j),⟨by dsimp only;omega,by dsimp only;omega,hjb,.inr h3,hr⟩,by dsimp only;omega,⟨rfl,rfl,rfl,rfl,rfl,iv (by dsimp only;omega),rfl,trivial⟩,⟨rfl,trivial⟩⟩
   ·rw[ff]at h3;refine wk ?_;exact⟨(i,(i+j) / 2),⟨hi,by dsimp only;omega,by dsimp only;omega,hl,.inr (by dsimp only;omega)⟩,by dsimp only;omega,⟨rfl,rfl,rfl,rfl,rfl,rfl,iv (by dsimp only;omega),trivial⟩,⟨rfl,trivial⟩⟩
  ·have:i=j:=by omega
   subst this;refine wk ?_;refine AC.loop (X:=Nat×List (List D)) (fun x=>⟨[(0,.r 220 0),(10,.d (.v (.int .i64 (i:Int)))),(13,.d (.v (.int .i64 ((x.1:Nat):Int))))],[(220,.row 0 161 4 x.2)]⟩) (fun x=>a≤x.1∧x.1≤i-1∧Mv xs x.2 a b∧∀ p,aV x.2 p=aV xs (if a≤p∧p<x.1 then p+1 else if p=x.1 then a else p)) (fun x=>i-x.1) (a,xs) ⟨Nat.le_refl _,by dsimp only;omega,.refl _ _ _,fun p=>by dsimp only;rw[if_neg (by omega)];split<;>simp_all⟩ ⟨rfl,rfl,rfl,trivial⟩ ⟨rfl,trivial⟩ ?_;rintro ⟨k,zs⟩ ⟨hk,hki,hmz,hkz⟩;dsimp only at hk hki hmz hkz ⊢;have hz:=hmz.om hx;have hzl:=hmz.len;refine wk ?_;(first | intro K ms hms hK | intro K hK);refine s1 (fun h2=>?_) (fun h2=>?_)
   ·refine wk ?_;((try (first | intro K ms hms hK | intro K hK));(first | apply Ch.go | apply Ch.ah);exact rfl;exact rfl;exact Loc.cB (i:=k+1) rfl rfl rfl rfl (by omega) (by omega) rfl);refine wk ?_;((try (first | intro K ms hms hK | intro K hK));(first | apply Ch.go | apply Ch.ah);exact rfl;exact rfl;exact Loc.dC rfl rfl rfl (bC hz (i:=k+1) (by omega)) rfl);refine wk ?_;((try (first | intro K ms hms hK | intro K hK));(first | apply Ch.go | apply Ch.ah);exact rfl;exact rfl;exact Loc.dC rfl rfl rfl (bC hz (i:=k) (by omega)) rfl);refine wk ?_;((try (first | intro K ms hms hK | intro K hK));(first | apply Ch.st | apply Ch.aU);exact rfl;exact rfl;exact Do.iW rfl rfl rfl ⟨_,bC hz (i:=k) (by omega)⟩ rfl ⟨(hz _ (List.getElem_mem _)).2,(hz _ (List.getElem_mem _)).len⟩ rfl rfl rfl;exact rfl;exact rfl);have hy1:∀ c∈zs.set k (zs[k+1]'(by omega)),tm c:=oP hz (hz _ (List.getElem_mem _));have hl1:(zs.set k (zs[k+1]'(by omega))).length=zs.length:=by simp
    ((try (first | intro K ms hms hK | intro K hK));(first | apply Ch.go | apply Ch.ah);exact rfl;exact rfl;exact Loc.cB (i:=k+1) rfl rfl rfl rfl (by omega) (by omega) rfl);refine wk ?_;((try (first | intro K ms hms hK | intro K hK));(first | apply Ch.st | apply Ch.aU);exact rfl;exact rfl;exact Do.iW rfl rfl rfl ⟨_,bC hy1 (i:=k+1) (by omega)⟩ rfl ⟨(hz _ (List.getElem_mem _)).2,(hz _ (List.getElem_mem _)).len⟩ rfl rfl rfl;exact rfl;exact rfl);refine wk ?_;exact⟨(k+1,_),⟨by dsimp only;omega,by dsimp only;omega,hmz.trans (.swap zs (by omega) (by omega) (by omega) (by omega)),yl hk (by omega) hkz⟩,by dsimp only;omega,⟨rfl,rfl,rfl,trivial⟩,⟨rfl,trivial⟩⟩
   ·refine wk ?_;have hk':k=i-1:=by omega
    subst hk';exact⟨zs,⟨hmz,xP hB hi hjb hl hr hkz⟩,rfl⟩
 ·refine wk ?_;(first | intro K ms hms hK | intro K hK);refine s1 (fun h2=>?_) (fun h2=>?_)
  ·have hm:b=m+1:=by omega
   subst hm;refine wk ?_;refine AC.loop (X:=Nat×Nat) (fun x=>⟨[(0,.r 220 0),(1,.d (.v (.int .i64 (a:Int)))),(2,.d (.v (.int .i64 (m:Int)))),(3,.d (.v (.int .i64 ((m+1:Nat):Int)))),(4,.d fl),(14,.d (.v (.int .i64 ((x.1:Nat):Int)))),(15,.d (.v (.int .i64 ((x.2:Nat):Int))))],[(220,.row 0 161 4 xs)]⟩) (fun x=>a≤x.1∧x.1≤x.2∧x.2≤m∧(x.1=a∨aV xs (x.1-1)≤aV xs m)∧(x.2=m∨aV xs m<aV xs x.2)) (fun x=>x.2-x.1) (a,m) ⟨Nat.le_refl _,by dsimp only;omega,Nat.le_refl _,.inl rfl,.inl rfl⟩ ⟨rfl,rfl,rfl,rfl,rfl,rfl,rfl,trivial⟩ ⟨rfl,trivial⟩ ?_;rintro ⟨i,j⟩ ⟨hi,hij,hjb,hl,hr⟩;dsimp only at hi hij hjb hl hr ⊢;refine wk ?_;(first | intro K ms hms hK | intro K hK);refine s1 (fun h3=>?_) (fun h3=>?_)
   ·refine wk ?_;((try (first | intro K ms hms hK | intro K hK));(first | apply Ch.go | apply Ch.ah);exact rfl;exact rfl;exact Loc.conv rfl rfl (wrap_u64 (by omega) (by omega)));((try (first | intro K ms hms hK | intro K hK));(first | apply Ch.go | apply Ch.ah);exact rfl;exact rfl;exact Loc.u4 rfl rfl rfl);((try (first | intro K ms hms hK | intro K hK));(first | apply Ch.go | apply Ch.ah);exact rfl;exact rfl;exact Loc.conv rfl rfl (jV (by omega) (by omega)));refine wk ?_;((try (first | intro K ms hms hK | intro K hK));(first | apply Ch.go | apply Ch.ah);exact rfl;exact rfl;exact Loc.dC rfl rfl rfl (bC hx (i:=m) (by omega)) rfl);refine wk ?_;((try (first | intro K ms hms hK | intro K hK));(first | apply Ch.go | apply Ch.ah);exact rfl;exact rfl;exact Loc.cB (i:=(i+j) / 2) rfl rfl rfl rfl (by omega) (by omega) rfl);refine wk ?_;((try (first | intro K ms hms hK | intro K hK));(first | apply Ch.go | apply Ch.ah);exact rfl;exact rfl;exact Loc.dC rfl rfl rfl (bC hx (i:=(i+j) / 2) (by omega)) rfl);((try (first | intro K ms hms hK | intro K hK));(first | apply Ch.go | apply Ch.ah);exact rfl;exact rfl;refine Loc.ou (qA hx (i:=m) (j:=(i+j) / 2) (by omega) (by omega)) rfl rfl ?_;(repeat (first | exact trivial | refine⟨.inl rfl,?_⟩ | refine⟨.inr rfl,?_⟩)));refine s1 (fun h4=>?_) (fun h4=>?_)
    ·rw[ff]at h4;refine wk ?_;exact⟨(i,(i+j) / 2),⟨hi,by dsimp only;omega,by dsimp only;omega,hl,.inr h4⟩,by dsimp only;omega,⟨rfl,rfl,rfl,rfl,rfl,rfl,iv (by dsimp only;omega),trivial⟩,⟨rfl,trivial⟩⟩
    ·rw[ff]at h4;refine wk ?_;exact⟨((i+j) / 2+1,j),⟨by dsimp only;omega,by dsimp only;omega,hjb,.inr (by dsimp only;rw[Nat.add_sub_cancel];omega),hr⟩,by dsimp only;omega,⟨rfl,rfl,rfl,rfl,rfl,iv (by dsimp only;omega),rfl,trivial⟩,⟨rfl,trivial⟩⟩
   ·have:i=j:=by omega
    subst this;refine wk ?_;refine AC.loop (X:=Nat×List (List D)) (fun x=>⟨[(0,.r 220 0),(14,.d (.v (.int .i64 (i:Int)))),(17,.d (.v (.int .i64 ((x.1:Nat):Int))))],[(220,.row 0 161 4 x.2)]⟩) (fun x=>i≤x.1∧x.1≤m∧Mv xs x.2 a (m+1)∧∀ p,aV x.2 p=aV xs (if x.1<p∧p≤m then p-1 else if p=x.1 then m else p)) (fun x=>x.1) (m,xs) ⟨hjb,Nat.le_refl _,.refl _ _ _,fun p=>by dsimp only;rw[if_neg (by omega)];split<;>simp_all⟩ ⟨rfl,rfl,rfl,trivial⟩ ⟨rfl,trivial⟩ ?_;rintro ⟨k,zs⟩ ⟨hk,hki,hmz,hkz⟩;dsimp only at hk hki hmz hkz ⊢;have hz:=hmz.om hx;have hzl:=hmz.len;refine wk ?_;(first | intro K ms hms hK | intro K hK);refine s1 (fun h3=>?_) (fun h3=>?_)
    ·refine wk ?_;((try (first | intro K ms hms hK | intro K hK));(first | apply Ch.go | apply Ch.ah);exact rfl;exact rfl;exact Loc.cB (i:=k-1) rfl rfl rfl rfl (by omega) (by omega) rfl);refine wk ?_;((try (first | intro K ms hms hK | intro K hK));(first | apply Ch.go | apply Ch.ah);exact rfl;exact rfl;exact Loc.dC rfl rfl rfl (bC hz (i:=k-1) (by omega)) rfl);refine wk ?_;((try (first | intro K ms hms hK | intro K hK));(first | apply Ch.go | apply Ch.ah);exact rfl;exact rfl;exact Loc.dC rfl rfl rfl (bC hz (i:=k) (by omega)) rfl);refine wk ?_;((try (first | intro K ms hms hK | intro K hK));(first | apply Ch.st | apply Ch.aU);exact rfl;exact rfl;exact Do.iW rfl rfl rfl ⟨_,bC hz (i:=k) (by omega)⟩ rfl ⟨(hz _ (List.getElem_mem _)).2,(hz _ (List.getElem_mem _)).len⟩ rfl rfl rfl;exact rfl;exact rfl);have hy1:∀ c∈zs.set k (zs[k-1]'(by omega)),tm c:=oP hz (hz _ (List.getElem_mem _));have hl1:(zs.set k (zs[k-1]'(by omega))).length=zs.length:=by simp
     ((try (first | intro K ms hms hK | intro K hK));(first | apply Ch.go | apply Ch.ah);exact rfl;exact rfl;exact Loc.cB (i:=k-1) rfl rfl rfl rfl (by omega) (by omega) rfl);refine wk ?_;((try (first | intro K ms hms hK | intro K hK));(first | apply Ch.st | apply Ch.aU);exact rfl;exact rfl;exact Do.iW rfl rfl rfl ⟨_,bC hy1 (i:=k-1) (by omega)⟩ rfl ⟨(hz _ (List.getElem_mem _)).2,(hz _ (List.getElem_mem _)).len⟩ rfl rfl rfl;exact rfl;exact rfl);refine wk ?_;exact⟨(k-1,_),⟨by dsimp only;omega,by dsimp only;omega,hmz.trans (.swap zs (by omega) (by omega) (by omega) (by omega)),yI (by omega) hki (by omega) hkz⟩,by dsimp only;omega,⟨rfl,rfl,iv (by dsimp only;omega),trivial⟩,⟨rfl,trivial⟩⟩
    ·refine wk ?_;have hk':k=i:=by omega
     subst hk';exact⟨zs,⟨hmz,yJ hA hi hki hl hr hkz⟩,rfl⟩
  ·refine wk ?_;((try (first | intro K ms hms hK | intro K hK));(first | apply Ch.go | apply Ch.ah);exact rfl;exact rfl;exact Loc.conv rfl rfl (wrap_u64 (by omega) (by omega)));((try (first | intro K ms hms hK | intro K hK));(first | apply Ch.go | apply Ch.ah);exact rfl;exact rfl;exact Loc.u4 rfl rfl rfl);((try (first | intro K ms hms hK | intro K hK));(first | apply Ch.go | apply Ch.ah);exact rfl;exact rfl;exact Loc.conv rfl rfl (jV (by omega) (by omega)));refine wk ?_;obtain⟨mid,hmid⟩:∃ mid,mid=(a+b) / 2:=⟨_,rfl⟩
   obtain⟨s0,r0,hs0⟩:∃ s0 r0:Nat,(mid<m∧s0+b=mid+m∧r0=mid)∨(m≤mid∧s0=a∧r0=m):=by
    by_cases h:mid<m
    ·exact⟨mid+m-b,mid,.inl ⟨h,by omega,rfl⟩⟩
    ·exact⟨a,m,.inr ⟨by omega,rfl,rfl⟩⟩
   (first | intro K ms hms hK | intro K hK);refine s1 (fun h3=>?_) (fun h3=>?_)
   all_goals refine wk ?_
   all_goals refine AC.loop (X:=Nat×Nat) (fun x=>⟨[(0,.r 220 0),(1,.d (.v (.int .i64 (a:Int)))),(2,.d (.v (.int .i64 (m:Int)))),(3,.d (.v (.int .i64 (b:Int)))),(4,.d fl),(18,.d (.v (.int .i64 (mid:Int)))),(19,.d (.v (.int .i64 ((mid+m:Nat):Int)))),(22,.d (.v (.int .i64 ((mid+m-1:Nat):Int)))),(20,.d (.v (.int .i64 ((x.1:Nat):Int)))),(21,.d (.v (.int .i64 ((x.2:Nat):Int))))],[(220,.row 0 161 4 xs)]⟩) (fun x=>s0≤x.1∧x.1≤x.2∧x.2≤r0∧(x.1=s0∨aV xs (x.1-1)≤aV xs (mid+m-x.1))∧(x.2=r0∨aV xs (mid+m-1-x.2)≤aV xs x.2)) (fun x=>x.2-x.1) (s0,r0) ⟨Nat.le_refl _,by dsimp only;omega,Nat.le_refl _,.inl rfl,.inl rfl⟩ ⟨rfl,rfl,rfl,rfl,rfl,iv (by omega),iv (by omega),iv (by omega),iv (by dsimp only;omega),iv (by dsimp only;omega),trivial⟩ ⟨rfl,trivial⟩ ?_
   all_goals rintro ⟨s,r⟩ ⟨hs,hsr,hr0,hl,hr⟩
   all_goals dsimp only at hs hsr hr0 hl hr ⊢
   all_goals refine wk ?_
   all_goals (first | intro K ms hms hK | intro K hK)
   all_goals refine s1 (fun h4=>?_) (fun h4=>?_)
   ·refine wk ?_;((try (first | intro K ms hms hK | intro K hK));(first | apply Ch.go | apply Ch.ah);exact rfl;exact rfl;exact Loc.conv rfl rfl (wrap_u64 (by omega) (by omega)));((try (first | intro K ms hms hK | intro K hK));(first | apply Ch.go | apply Ch.ah);exact rfl;exact rfl;exact Loc.u4 rfl rfl rfl);((try (first | intro K ms hms hK | intro K hK));(first | apply Ch.go | apply Ch.ah);exact rfl;exact rfl;exact Loc.conv rfl rfl (jV (by omega) (by omega)));refine wk ?_;((try (first | intro K ms hms hK | intro K hK));(first | apply Ch.go | apply Ch.ah);exact rfl;exact rfl;exact Loc.cB (i:=mid+m-1-(s+r) / 2) rfl rfl rfl rfl (by omega) (by omega) rfl);refine wk ?_;((try (first | intro K ms hms hK | intro K hK));(first | apply Ch.go | apply Ch.ah);exact rfl;exact rfl;exact Loc.dC rfl rfl rfl (bC hx (i:=mid+m-1-(s+r) / 2) (by omega)) rfl);refine wk ?_;((try (first | intro K ms hms hK | intro K hK));(first | apply Ch.go | apply Ch.ah);exact rfl;exact rfl;exact Loc.cB (i:=(s+r) / 2) rfl rfl rfl rfl (by omega) (by omega) rfl);refine wk ?_;((try (first | intro K ms hms hK | intro K hK));(first | apply Ch.go | apply Ch.ah);exact rfl;exact rfl;exact Loc.dC rfl rfl rfl (bC hx (i:=(s+r) / 2) (by omega)) rfl)
    ((try (first | intro K ms hms hK | intro K hK));(first | apply Ch.go | apply Ch.ah);exact rfl;exact rfl;refine Loc.ou (qA hx (i:=mid+m-1-(s+r) / 2) (j:=(s+r) / 2) (by omega) (by omega)) rfl rfl ?_;(repeat (first | exact trivial | refine⟨.inl rfl,?_⟩ | refine⟨.inr rfl,?_⟩)));refine s1 (fun h5=>?_) (fun h5=>?_)
    ·rw[ff]at h5;refine wk ?_;exact⟨(s,(s+r) / 2),⟨hs,by dsimp only;omega,by dsimp only;omega,hl,.inr (by dsimp only;omega)⟩,by dsimp only;omega,⟨rfl,rfl,rfl,rfl,rfl,rfl,rfl,rfl,rfl,iv (by dsimp only;omega),trivial⟩,⟨rfl,trivial⟩⟩
    ·rw[ff]at h5;refine wk ?_;exact⟨((s+r) / 2+1,r),⟨by dsimp only;omega,by dsimp only;omega,hr0,.inr (by dsimp only;rw[Nat.add_sub_cancel,show mid+m-((s+r) / 2+1)=mid+m-1-(s+r) / 2 by omega];omega),hr⟩,by dsimp only;omega,⟨rfl,rfl,rfl,rfl,rfl,rfl,rfl,rfl,iv (by dsimp only;omega),rfl,trivial⟩,⟨rfl,trivial⟩⟩
   ·have:s=r:=by omega
    subst this
    (repeat (first
      | refine Ch.no rfl rfl ?_
      | refine Ch.iX rfl rfl ?_
      | ((first | apply Ch.go | apply Ch.ah);exact rfl;exact rfl;first
        | exact Loc.move (v:= .d _) rfl rfl
        | exact Loc.assign (v:= .d _) rfl rfl
        | exact Loc.c7 rfl rfl rfl rfl
        | exact Loc.cU rfl rfl rfl
        | exact Loc.cY rfl rfl rfl
        | exact Loc.cV rfl rfl
        | exact Loc.bh (v:= .d _) rfl rfl rfl
        | exact Loc.bk (v:= .d _) rfl rfl rfl
        | exact Loc.cz rfl rfl rfl rfl (by kernel_rfl)
        | exact Loc.cZ rfl rfl rfl
        | exact Loc.cQ rfl rfl rfl rfl
        | exact Loc.ea rfl rfl rfl rfl (by assumption) rfl
        | exact Loc.fN rfl rfl
        | exact Loc.fP rfl rfl
        | exact Loc.fM rfl rfl rfl
        | exact Loc.len rfl rfl
        | exact Loc.eb rfl rfl rfl (by omega)
        | exact Loc.eG rfl rfl rfl (by omega)
        | exact Loc.ec rfl rfl rfl (by omega)
        | exact Loc.eE rfl rfl rfl (by omega)
        | exact Loc.eP rfl rfl rfl (by omega)
        | exact Loc.eM rfl rfl rfl (by omega)
        | exact Loc.eD rfl rfl rfl (by omega)
        | exact Loc.eF rfl rfl rfl (by omega)
        | exact Loc.gn rfl rfl rfl (by omega)
        | exact Loc.gp rfl rfl rfl (by omega)
        | exact Loc.gG rfl rfl rfl (by omega)
        | exact Loc.gH rfl rfl rfl (by omega)
        | exact Loc.add rfl rfl rfl (IntWalk.i64_in _ (by omega))
        | exact Loc.sub rfl rfl rfl (IntWalk.i64_in _ (by omega))
        | exact Loc.fL rfl rfl
        | exact Loc.fJ rfl rfl
        | exact Loc.cW rfl rfl rfl
        | exact Loc.c8 rfl rfl rfl (by assumption) rfl
        | exact Loc.cB rfl rfl rfl rfl rfl (by omega) rfl
        | exact Loc.move (v:= .g _) rfl rfl
        | exact Loc.move (v:= .p _ _) rfl rfl
        | exact Loc.move (v:= .r _ _) rfl rfl
        | exact Loc.move (v:= .t _) rfl rfl
        | exact Loc.assign (v:= .g _) rfl rfl
        | exact Loc.assign (v:= .r _ _) rfl rfl
        | exact Loc.assign (v:= .p _ _) rfl rfl
        | exact Loc.extract (v:= .d _) rfl rfl rfl rfl
        | exact Loc.extract (v:= .g _) rfl rfl rfl rfl
        | exact Loc.bh (v:= .g _) rfl rfl rfl
        | exact Loc.bk (v:= .g _) rfl rfl rfl
        | exact Loc.move (v:= .un) rfl rfl
        | exact Loc.build rfl rfl rfl rfl
        | exact Loc.df rfl rfl rfl rfl rfl rfl rfl)
      | refine Ch.eO (hK _ ?_)
      | ((first | apply Ch.st | apply Ch.aU);exact rfl;exact rfl;(first
        | exact Do.aC rfl rfl rfl rfl .g rfl rfl rfl
        | exact Do.aC rfl rfl rfl rfl .d rfl rfl rfl
        | exact Do.aC rfl rfl rfl rfl (.r rfl) rfl rfl rfl);exact rfl;exact rfl)
      | ((first | apply Ch.ef | apply Ch.bU);exact rfl;exact rfl;(first
        | exact Do.alloc rfl rfl rfl
        | exact Do.box rfl rfl rfl .g rfl
        | exact Do.box rfl rfl rfl .d rfl
        | exact Do.fI rfl rfl
        | exact Do.ck rfl rfl rfl rfl rfl rfl (by first | omega | (simp;omega))
        | exact Do.bS rfl rfl rfl rfl rfl rfl);exact rfl;exact rfl)
      | refine Ch.fK (by rw[hms];kernel_rfl) (hK _ ?_)
      | refine Ch.iY rfl rfl ?_))
    refine AC.ji rfl ?_;refine AC.exit ?_;refine AC.seq ?_;refine AC.mm (by decide+kernel) ?_;(first | intro K ms hms hK | intro K hK)
    (repeat (first
      | refine Ch.no rfl rfl ?_
      | refine Ch.iX rfl rfl ?_
      | ((first | apply Ch.go | apply Ch.ah);exact rfl;exact rfl;first
        | exact Loc.move (v:= .d _) rfl rfl
        | exact Loc.assign (v:= .d _) rfl rfl
        | exact Loc.c7 rfl rfl rfl rfl
        | exact Loc.cU rfl rfl rfl
        | exact Loc.cY rfl rfl rfl
        | exact Loc.cV rfl rfl
        | exact Loc.bh (v:= .d _) rfl rfl rfl
        | exact Loc.bk (v:= .d _) rfl rfl rfl
        | exact Loc.cz rfl rfl rfl rfl (by kernel_rfl)
        | exact Loc.cZ rfl rfl rfl
        | exact Loc.cQ rfl rfl rfl rfl
        | exact Loc.ea rfl rfl rfl rfl (by assumption) rfl
        | exact Loc.fN rfl rfl
        | exact Loc.fP rfl rfl
        | exact Loc.fM rfl rfl rfl
        | exact Loc.len rfl rfl
        | exact Loc.eb rfl rfl rfl (by omega)
        | exact Loc.eG rfl rfl rfl (by omega)
        | exact Loc.ec rfl rfl rfl (by omega)
        | exact Loc.eE rfl rfl rfl (by omega)
        | exact Loc.eP rfl rfl rfl (by omega)
        | exact Loc.eM rfl rfl rfl (by omega)
        | exact Loc.eD rfl rfl rfl (by omega)
        | exact Loc.eF rfl rfl rfl (by omega)
        | exact Loc.gn rfl rfl rfl (by omega)
        | exact Loc.gp rfl rfl rfl (by omega)
        | exact Loc.gG rfl rfl rfl (by omega)
        | exact Loc.gH rfl rfl rfl (by omega)
        | exact Loc.add rfl rfl rfl (IntWalk.i64_in _ (by omega))
        | exact Loc.sub rfl rfl rfl (IntWalk.i64_in _ (by omega))
        | exact Loc.fL rfl rfl
        | exact Loc.fJ rfl rfl
        | exact Loc.cW rfl rfl rfl
        | exact Loc.c8 rfl rfl rfl (by assumption) rfl
        | exact Loc.cB rfl rfl rfl rfl rfl (by omega) rfl
        | exact Loc.move (v:= .g _) rfl rfl
        | exact Loc.move (v:= .p _ _) rfl rfl
        | exact Loc.move (v:= .r _ _) rfl rfl
        | exact Loc.move (v:= .t _) rfl rfl
        | exact Loc.assign (v:= .g _) rfl rfl
        | exact Loc.assign (v:= .r _ _) rfl rfl
        | exact Loc.assign (v:= .p _ _) rfl rfl
        | exact Loc.extract (v:= .d _) rfl rfl rfl rfl
        | exact Loc.extract (v:= .g _) rfl rfl rfl rfl
        | exact Loc.bh (v:= .g _) rfl rfl rfl
        | exact Loc.bk (v:= .g _) rfl rfl rfl
        | exact Loc.move (v:= .un) rfl rfl
        | exact Loc.build rfl rfl rfl rfl
        | exact Loc.df rfl rfl rfl rfl rfl rfl rfl)
      | refine Ch.eO (hK _ ?_)
      | ((first | apply Ch.st | apply Ch.aU);exact rfl;exact rfl;(first
        | exact Do.aC rfl rfl rfl rfl .g rfl rfl rfl
        | exact Do.aC rfl rfl rfl rfl .d rfl rfl rfl
        | exact Do.aC rfl rfl rfl rfl (.r rfl) rfl rfl rfl);exact rfl;exact rfl)
      | ((first | apply Ch.ef | apply Ch.bU);exact rfl;exact rfl;(first
        | exact Do.alloc rfl rfl rfl
        | exact Do.box rfl rfl rfl .g rfl
        | exact Do.box rfl rfl rfl .d rfl
        | exact Do.fI rfl rfl
        | exact Do.ck rfl rfl rfl rfl rfl rfl (by first | omega | (simp;omega))
        | exact Do.bS rfl rfl rfl rfl rfl rfl);exact rfl;exact rfl)
      | refine Ch.fK (by rw[hms];kernel_rfl) (hK _ ?_)
      | refine Ch.iY rfl rfl ?_))
    have hse:s≤mid:=by omega
    refine AC.seq ?_;refine AC.join (X:=List (List D)) (fun zs=>⟨[(0,.r 220 0),(1,.d (.v (.int .i64 (a:Int)))),(3,.d (.v (.int .i64 (b:Int)))),(4,.d fl),(18,.d (.v (.int .i64 (mid:Int)))),(20,.d (.v (.int .i64 (s:Int)))),(24,.d (.v (.int .i64 ((mid+m-s:Nat):Int))))],[(220,.row 0 161 4 zs)]⟩) (fun zs=>sy xs zs s m (mid+m-s)∧Mv xs zs a b) ?_ ?_
    ·by_cases c1:s<m
     ·by_cases c2:m<mid+m-s
      ·refine wk ?_;((try (first | intro K ms hms hK | intro K hK));refine Ch.gq rfl rfl (AI (a:=s) (m:=m) (b:=mid+m-s) hx rfl rfl (show ((mid+m:Nat):Int)-(s:Int)=((mid+m-s:Nat):Int)by omega) c1 c2 (by omega) hlen fl) rfl rfl rfl ?_ ?_;(focus ((repeat (first | exact trivial | refine⟨.inl rfl,?_⟩ | refine⟨.inr rfl,?_⟩)))));rintro zs ⟨hr1,hm1⟩;refine wk ?_;exact⟨zs,⟨hr1,hm1.mono (by omega) (by omega)⟩,⟨rfl,rfl,rfl,rfl,rfl,rfl,iv (by omega),trivial⟩,⟨rfl,trivial⟩⟩
      ·first
       | (exfalso;omega)
       | (refine wk ?_
          exact⟨xs,⟨⟨rfl,fun p=>by rw[oI (.inr (by omega)) (by omega) (by omega)]⟩,.refl _ _ _⟩,⟨rfl,rfl,rfl,rfl,rfl,rfl,iv (by omega),trivial⟩,⟨rfl,trivial⟩⟩)
     ·first
      | (exfalso;omega)
      | (refine wk ?_
         exact⟨xs,⟨⟨rfl,fun p=>by rw[oI (.inl (by omega)) (by omega) (by omega)]⟩,.refl _ _ _⟩,⟨rfl,rfl,rfl,rfl,rfl,rfl,iv (by omega),trivial⟩,⟨rfl,trivial⟩⟩)
    rintro zs ⟨hrot,hmz⟩;have hz:=hmz.om hx;have hzl:=hmz.len;obtain⟨f1,f2,f3,f4,f5⟩:=rB (mid:=mid) hA hB (fun p=>im (hrot.2 p)) (by omega) (by omega) (by omega) (by omega) (by omega) (by omega) (by
     rcases hl with hl | hl
     ·rcases hs0 with h | h
      ·exact .inr (.inl (by omega))
      ·exact .inl (by omega)
     ·exact .inr (.inr hl)) (by
     rcases hr with hr | hr
     ·rcases hs0 with h | h
      ·exact .inr (.inl (by omega))
      ·exact .inl (by omega)
     ·exact .inr (.inr (by rw[show mid+m-s-1=mid+m-1-s by omega];exact hr)))
    refine AC.seq ?_;refine AC.join (X:=List (List D)) (fun us=>⟨[(0,.r 220 0),(3,.d (.v (.int .i64 (b:Int)))),(4,.d fl),(18,.d (.v (.int .i64 (mid:Int)))),(24,.d (.v (.int .i64 ((mid+m-s:Nat):Int))))],[(220,.row 0 161 4 us)]⟩) (fun us=>Mv zs us a mid∧SrtR us a mid) ?_ ?_
    ·by_cases c1:a<s
     ·by_cases c2:s<mid
      ·refine wk ?_;((try (first | intro K ms hms hK | intro K hK));refine Ch.gq rfl rfl ((ih zs a s mid hz (by omega) c1 c2 (by omega) (by omega) f1 f2).cast rfl rfl rfl) rfl rfl rfl ?_ ?_;(focus ((repeat (first | exact trivial | refine⟨.inl rfl,?_⟩ | refine⟨.inr rfl,?_⟩)))));rintro us ⟨hr1,hm1⟩;refine wk ?_;exact⟨us,⟨hr1,hm1⟩,⟨rfl,rfl,rfl,rfl,rfl,trivial⟩,⟨rfl,trivial⟩⟩
      ·first
       | (exfalso;omega)
       | (refine wk ?_
          have:mid=s:=by omega
          exact⟨zs,⟨.refl _ _ _,by rw[this];exact f1⟩,⟨rfl,rfl,rfl,rfl,rfl,trivial⟩,⟨rfl,trivial⟩⟩)
     ·first
      | (exfalso;omega)
      | (refine wk ?_
         have:a=s:=by omega
         exact⟨zs,⟨.refl _ _ _,by rw[this];exact f2⟩,⟨rfl,rfl,rfl,rfl,rfl,trivial⟩,⟨rfl,trivial⟩⟩)
    rintro us ⟨hmu,hsu⟩;have hu:=hmu.om hz;have hul:=hmu.len;have hmu2:=hmz.trans (hmu.mono (a':=a) (b':=b) (by omega) (by omega));by_cases c1:mid<mid+m-s
    ·by_cases c2:mid+m-s<b
     ·refine wk ?_;((try (first | intro K ms hms hK | intro K hK));refine Ch.gq rfl rfl ((ih us mid (mid+m-s) b hu (by omega) c1 c2 (by omega) (by omega) (f3.mv hmu (.inr (by omega))) (f4.mv hmu (.inr (by omega)))).cast rfl rfl rfl) rfl rfl rfl ?_ ?_;(focus ((repeat (first | exact trivial | refine⟨.inl rfl,?_⟩ | refine⟨.inr rfl,?_⟩)))));rintro vs ⟨hr1,hm1⟩;refine wk ?_;exact⟨vs,⟨hmu2.trans (hr1.mono (by omega) (by omega)),gB f5 hmu hsu hr1 hm1⟩,rfl⟩
     ·first
      | (exfalso;omega)
      | (refine wk ?_
         have e1:b=mid+m-s:=by omega
         exact⟨us,⟨hmu2,gB f5 hmu hsu (.refl _ _ _) (by rw[e1];exact f3.mv hmu (.inr (by omega)))⟩,rfl⟩)
    ·first
     | (exfalso;omega)
     | (refine wk ?_
        have e1:mid+m-s=mid:=by omega
        exact⟨us,⟨hmu2,gB f5 hmu hsu (.refl _ _ _) (by rw[e1]at f4;exact f4.mv hmu (.inr (by omega)))⟩,rfl⟩)
   ·refine wk ?_;((try (first | intro K ms hms hK | intro K hK));(first | apply Ch.go | apply Ch.ah);exact rfl;exact rfl;exact Loc.conv rfl rfl (wrap_u64 (by omega) (by omega)));((try (first | intro K ms hms hK | intro K hK));(first | apply Ch.go | apply Ch.ah);exact rfl;exact rfl;exact Loc.u4 rfl rfl rfl);((try (first | intro K ms hms hK | intro K hK));(first | apply Ch.go | apply Ch.ah);exact rfl;exact rfl;exact Loc.conv rfl rfl (jV (by omega) (by omega)));refine wk ?_;((try (first | intro K ms hms hK | intro K hK));(first | apply Ch.go | apply Ch.ah);exact rfl;exact rfl;exact Loc.cB (i:=mid+m-1-(s+r) / 2) rfl rfl rfl rfl (by omega) (by omega) rfl);refine wk ?_;((try (first | intro K ms hms hK | intro K hK));(first | apply Ch.go | apply Ch.ah);exact rfl;exact rfl;exact Loc.dC rfl rfl rfl (bC hx (i:=mid+m-1-(s+r) / 2) (by omega)) rfl);refine wk ?_;((try (first | intro K ms hms hK | intro K hK));(first | apply Ch.go | apply Ch.ah);exact rfl;exact rfl;exact Loc.cB (i:=(s+r) / 2) rfl rfl rfl rfl (by omega) (by omega) rfl);refine wk ?_;((try (first | intro K ms hms hK | intro K hK));(first | apply Ch.go | apply Ch.ah);exact rfl;exact rfl;exact Loc.dC rfl rfl rfl (bC hx (i:=(s+r) / 2) (by omega)) rfl)
    ((try (first | intro K ms hms hK | intro K hK));(first | apply Ch.go | apply Ch.ah);exact rfl;exact rfl;refine Loc.ou (qA hx (i:=mid+m-1-(s+r) / 2) (j:=(s+r) / 2) (by omega) (by omega)) rfl rfl ?_;(repeat (first | exact trivial | refine⟨.inl rfl,?_⟩ | refine⟨.inr rfl,?_⟩)));refine s1 (fun h5=>?_) (fun h5=>?_)
    ·rw[ff]at h5;refine wk ?_;exact⟨(s,(s+r) / 2),⟨hs,by dsimp only;omega,by dsimp only;omega,hl,.inr (by dsimp only;omega)⟩,by dsimp only;omega,⟨rfl,rfl,rfl,rfl,rfl,rfl,rfl,rfl,rfl,iv (by dsimp only;omega),trivial⟩,⟨rfl,trivial⟩⟩
    ·rw[ff]at h5;refine wk ?_;exact⟨((s+r) / 2+1,r),⟨by dsimp only;omega,by dsimp only;omega,hr0,.inr (by dsimp only;rw[Nat.add_sub_cancel,show mid+m-((s+r) / 2+1)=mid+m-1-(s+r) / 2 by omega];omega),hr⟩,by dsimp only;omega,⟨rfl,rfl,rfl,rfl,rfl,rfl,rfl,rfl,iv (by dsimp only;omega),rfl,trivial⟩,⟨rfl,trivial⟩⟩
   ·have:s=r:=by omega
    subst this
    (repeat (first
      | refine Ch.no rfl rfl ?_
      | refine Ch.iX rfl rfl ?_
      | ((first | apply Ch.go | apply Ch.ah);exact rfl;exact rfl;first
        | exact Loc.move (v:= .d _) rfl rfl
        | exact Loc.assign (v:= .d _) rfl rfl
        | exact Loc.c7 rfl rfl rfl rfl
        | exact Loc.cU rfl rfl rfl
        | exact Loc.cY rfl rfl rfl
        | exact Loc.cV rfl rfl
        | exact Loc.bh (v:= .d _) rfl rfl rfl
        | exact Loc.bk (v:= .d _) rfl rfl rfl
        | exact Loc.cz rfl rfl rfl rfl (by kernel_rfl)
        | exact Loc.cZ rfl rfl rfl
        | exact Loc.cQ rfl rfl rfl rfl
        | exact Loc.ea rfl rfl rfl rfl (by assumption) rfl
        | exact Loc.fN rfl rfl
        | exact Loc.fP rfl rfl
        | exact Loc.fM rfl rfl rfl
        | exact Loc.len rfl rfl
        | exact Loc.eb rfl rfl rfl (by omega)
        | exact Loc.eG rfl rfl rfl (by omega)
        | exact Loc.ec rfl rfl rfl (by omega)
        | exact Loc.eE rfl rfl rfl (by omega)
        | exact Loc.eP rfl rfl rfl (by omega)
        | exact Loc.eM rfl rfl rfl (by omega)
        | exact Loc.eD rfl rfl rfl (by omega)
        | exact Loc.eF rfl rfl rfl (by omega)
        | exact Loc.gn rfl rfl rfl (by omega)
        | exact Loc.gp rfl rfl rfl (by omega)
        | exact Loc.gG rfl rfl rfl (by omega)
        | exact Loc.gH rfl rfl rfl (by omega)
        | exact Loc.add rfl rfl rfl (IntWalk.i64_in _ (by omega))
        | exact Loc.sub rfl rfl rfl (IntWalk.i64_in _ (by omega))
        | exact Loc.fL rfl rfl
        | exact Loc.fJ rfl rfl
        | exact Loc.cW rfl rfl rfl
        | exact Loc.c8 rfl rfl rfl (by assumption) rfl
        | exact Loc.cB rfl rfl rfl rfl rfl (by omega) rfl
        | exact Loc.move (v:= .g _) rfl rfl
        | exact Loc.move (v:= .p _ _) rfl rfl
        | exact Loc.move (v:= .r _ _) rfl rfl
        | exact Loc.move (v:= .t _) rfl rfl
        | exact Loc.assign (v:= .g _) rfl rfl
        | exact Loc.assign (v:= .r _ _) rfl rfl
        | exact Loc.assign (v:= .p _ _) rfl rfl
        | exact Loc.extract (v:= .d _) rfl rfl rfl rfl
        | exact Loc.extract (v:= .g _) rfl rfl rfl rfl
        | exact Loc.bh (v:= .g _) rfl rfl rfl
        | exact Loc.bk (v:= .g _) rfl rfl rfl
        | exact Loc.move (v:= .un) rfl rfl
        | exact Loc.build rfl rfl rfl rfl
        | exact Loc.df rfl rfl rfl rfl rfl rfl rfl)
      | refine Ch.eO (hK _ ?_)
      | ((first | apply Ch.st | apply Ch.aU);exact rfl;exact rfl;(first
        | exact Do.aC rfl rfl rfl rfl .g rfl rfl rfl
        | exact Do.aC rfl rfl rfl rfl .d rfl rfl rfl
        | exact Do.aC rfl rfl rfl rfl (.r rfl) rfl rfl rfl);exact rfl;exact rfl)
      | ((first | apply Ch.ef | apply Ch.bU);exact rfl;exact rfl;(first
        | exact Do.alloc rfl rfl rfl
        | exact Do.box rfl rfl rfl .g rfl
        | exact Do.box rfl rfl rfl .d rfl
        | exact Do.fI rfl rfl
        | exact Do.ck rfl rfl rfl rfl rfl rfl (by first | omega | (simp;omega))
        | exact Do.bS rfl rfl rfl rfl rfl rfl);exact rfl;exact rfl)
      | refine Ch.fK (by rw[hms];kernel_rfl) (hK _ ?_)
      | refine Ch.iY rfl rfl ?_))
    refine AC.ji rfl ?_;refine AC.exit ?_;refine AC.seq ?_;refine AC.mm (by decide+kernel) ?_;(first | intro K ms hms hK | intro K hK)
    (repeat (first
      | refine Ch.no rfl rfl ?_
      | refine Ch.iX rfl rfl ?_
      | ((first | apply Ch.go | apply Ch.ah);exact rfl;exact rfl;first
        | exact Loc.move (v:= .d _) rfl rfl
        | exact Loc.assign (v:= .d _) rfl rfl
        | exact Loc.c7 rfl rfl rfl rfl
        | exact Loc.cU rfl rfl rfl
        | exact Loc.cY rfl rfl rfl
        | exact Loc.cV rfl rfl
        | exact Loc.bh (v:= .d _) rfl rfl rfl
        | exact Loc.bk (v:= .d _) rfl rfl rfl
        | exact Loc.cz rfl rfl rfl rfl (by kernel_rfl)
        | exact Loc.cZ rfl rfl rfl
        | exact Loc.cQ rfl rfl rfl rfl
        | exact Loc.ea rfl rfl rfl rfl (by assumption) rfl
        | exact Loc.fN rfl rfl
        | exact Loc.fP rfl rfl
        | exact Loc.fM rfl rfl rfl
        | exact Loc.len rfl rfl
        | exact Loc.eb rfl rfl rfl (by omega)
        | exact Loc.eG rfl rfl rfl (by omega)
        | exact Loc.ec rfl rfl rfl (by omega)
        | exact Loc.eE rfl rfl rfl (by omega)
        | exact Loc.eP rfl rfl rfl (by omega)
        | exact Loc.eM rfl rfl rfl (by omega)
        | exact Loc.eD rfl rfl rfl (by omega)
        | exact Loc.eF rfl rfl rfl (by omega)
        | exact Loc.gn rfl rfl rfl (by omega)
        | exact Loc.gp rfl rfl rfl (by omega)
        | exact Loc.gG rfl rfl rfl (by omega)
        | exact Loc.gH rfl rfl rfl (by omega)
        | exact Loc.add rfl rfl rfl (IntWalk.i64_in _ (by omega))
        | exact Loc.sub rfl rfl rfl (IntWalk.i64_in _ (by omega))
        | exact Loc.fL rfl rfl
        | exact Loc.fJ rfl rfl
        | exact Loc.cW rfl rfl rfl
        | exact Loc.c8 rfl rfl rfl (by assumption) rfl
        | exact Loc.cB rfl rfl rfl rfl rfl (by omega) rfl
        | exact Loc.move (v:= .g _) rfl rfl
        | exact Loc.move (v:= .p _ _) rfl rfl
        | exact Loc.move (v:= .r _ _) rfl rfl
        | exact Loc.move (v:= .t _) rfl rfl
        | exact Loc.assign (v:= .g _) rfl rfl
        | exact Loc.assign (v:= .r _ _) rfl rfl
        | exact Loc.assign (v:= .p _ _) rfl rfl
        | exact Loc.extract (v:= .d _) rfl rfl rfl rfl
        | exact Loc.extract (v:= .g _) rfl rfl rfl rfl
        | exact Loc.bh (v:= .g _) rfl rfl rfl
        | exact Loc.bk (v:= .g _) rfl rfl rfl
        | exact Loc.move (v:= .un) rfl rfl
        | exact Loc.build rfl rfl rfl rfl
        | exact Loc.df rfl rfl rfl rfl rfl rfl rfl)
      | refine Ch.eO (hK _ ?_)
      | ((first | apply Ch.st | apply Ch.aU);exact rfl;exact rfl;(first
        | exact Do.aC rfl rfl rfl rfl .g rfl rfl rfl
        | exact Do.aC rfl rfl rfl rfl .d rfl rfl rfl
        | exact Do.aC rfl rfl rfl rfl (.r rfl) rfl rfl rfl);exact rfl;exact rfl)
      | ((first | apply Ch.ef | apply Ch.bU);exact rfl;exact rfl;(first
        | exact Do.alloc rfl rfl rfl
        | exact Do.box rfl rfl rfl .g rfl
        | exact Do.box rfl rfl rfl .d rfl
        | exact Do.fI rfl rfl
        | exact Do.ck rfl rfl rfl rfl rfl rfl (by first | omega | (simp;omega))
        | exact Do.bS rfl rfl rfl rfl rfl rfl);exact rfl;exact rfl)
      | refine Ch.fK (by rw[hms];kernel_rfl) (hK _ ?_)
      | refine Ch.iY rfl rfl ?_))
    have hse:s≤mid:=by omega
    refine AC.seq ?_;refine AC.join (X:=List (List D)) (fun zs=>⟨[(0,.r 220 0),(1,.d (.v (.int .i64 (a:Int)))),(3,.d (.v (.int .i64 (b:Int)))),(4,.d fl),(18,.d (.v (.int .i64 (mid:Int)))),(20,.d (.v (.int .i64 (s:Int)))),(24,.d (.v (.int .i64 ((mid+m-s:Nat):Int))))],[(220,.row 0 161 4 zs)]⟩) (fun zs=>sy xs zs s m (mid+m-s)∧Mv xs zs a b) ?_ ?_
    ·by_cases c1:s<m
     ·by_cases c2:m<mid+m-s
      ·refine wk ?_;((try (first | intro K ms hms hK | intro K hK));refine Ch.gq rfl rfl (AI (a:=s) (m:=m) (b:=mid+m-s) hx rfl rfl (show ((mid+m:Nat):Int)-(s:Int)=((mid+m-s:Nat):Int)by omega) c1 c2 (by omega) hlen fl) rfl rfl rfl ?_ ?_;(focus ((repeat (first | exact trivial | refine⟨.inl rfl,?_⟩ | refine⟨.inr rfl,?_⟩)))));rintro zs ⟨hr1,hm1⟩;refine wk ?_;exact⟨zs,⟨hr1,hm1.mono (by omega) (by omega)⟩,⟨rfl,rfl,rfl,rfl,rfl,rfl,iv (by omega),trivial⟩,⟨rfl,trivial⟩⟩
      ·first
       | (exfalso;omega)
       | (refine wk ?_
          exact⟨xs,⟨⟨rfl,fun p=>by rw[oI (.inr (by omega)) (by omega) (by omega)]⟩,.refl _ _ _⟩,⟨rfl,rfl,rfl,rfl,rfl,rfl,iv (by omega),trivial⟩,⟨rfl,trivial⟩⟩)
     ·first
      | (exfalso;omega)
      | (refine wk ?_
         exact⟨xs,⟨⟨rfl,fun p=>by rw[oI (.inl (by omega)) (by omega) (by omega)]⟩,.refl _ _ _⟩,⟨rfl,rfl,rfl,rfl,rfl,rfl,iv (by omega),trivial⟩,⟨rfl,trivial⟩⟩)
    rintro zs ⟨hrot,hmz⟩;have hz:=hmz.om hx;have hzl:=hmz.len;obtain⟨f1,f2,f3,f4,f5⟩:=rB (mid:=mid) hA hB (fun p=>im (hrot.2 p)) (by omega) (by omega) (by omega) (by omega) (by omega) (by omega) (by
     rcases hl with hl | hl
     ·rcases hs0 with h | h
      ·exact .inr (.inl (by omega))
      ·exact .inl (by omega)
     ·exact .inr (.inr hl)) (by
     rcases hr with hr | hr
     ·rcases hs0 with h | h
      ·exact .inr (.inl (by omega))
      ·exact .inl (by omega)
     ·exact .inr (.inr (by rw[show mid+m-s-1=mid+m-1-s by omega];exact hr)))
    refine AC.seq ?_;refine AC.join (X:=List (List D)) (fun us=>⟨[(0,.r 220 0),(3,.d (.v (.int .i64 (b:Int)))),(4,.d fl),(18,.d (.v (.int .i64 (mid:Int)))),(24,.d (.v (.int .i64 ((mid+m-s:Nat):Int))))],[(220,.row 0 161 4 us)]⟩) (fun us=>Mv zs us a mid∧SrtR us a mid) ?_ ?_
    ·by_cases c1:a<s
     ·by_cases c2:s<mid
      ·refine wk ?_;((try (first | intro K ms hms hK | intro K hK));refine Ch.gq rfl rfl ((ih zs a s mid hz (by omega) c1 c2 (by omega) (by omega) f1 f2).cast rfl rfl rfl) rfl rfl rfl ?_ ?_;(focus ((repeat (first | exact trivial | refine⟨.inl rfl,?_⟩ | refine⟨.inr rfl,?_⟩)))));rintro us ⟨hr1,hm1⟩;refine wk ?_;exact⟨us,⟨hr1,hm1⟩,⟨rfl,rfl,rfl,rfl,rfl,trivial⟩,⟨rfl,trivial⟩⟩
      ·first
       | (exfalso;omega)
       | (refine wk ?_
          have:mid=s:=by omega
          exact⟨zs,⟨.refl _ _ _,by rw[this];exact f1⟩,⟨rfl,rfl,rfl,rfl,rfl,trivial⟩,⟨rfl,trivial⟩⟩)
     ·first
      | (exfalso;omega)
      | (refine wk ?_
         have:a=s:=by omega
         exact⟨zs,⟨.refl _ _ _,by rw[this];exact f2⟩,⟨rfl,rfl,rfl,rfl,rfl,trivial⟩,⟨rfl,trivial⟩⟩)
    rintro us ⟨hmu,hsu⟩;have hu:=hmu.om hz;have hul:=hmu.len;have hmu2:=hmz.trans (hmu.mono (a':=a) (b':=b) (by omega) (by omega));by_cases c1:mid<mid+m-s
    ·by_cases c2:mid+m-s<b
     ·refine wk ?_;((try (first | intro K ms hms hK | intro K hK));refine Ch.gq rfl rfl ((ih us mid (mid+m-s) b hu (by omega) c1 c2 (by omega) (by omega) (f3.mv hmu (.inr (by omega))) (f4.mv hmu (.inr (by omega)))).cast rfl rfl rfl) rfl rfl rfl ?_ ?_;(focus ((repeat (first | exact trivial | refine⟨.inl rfl,?_⟩ | refine⟨.inr rfl,?_⟩)))));rintro vs ⟨hr1,hm1⟩;refine wk ?_;exact⟨vs,⟨hmu2.trans (hr1.mono (by omega) (by omega)),gB f5 hmu hsu hr1 hm1⟩,rfl⟩
     ·first
      | (exfalso;omega)
      | (refine wk ?_
         have e1:b=mid+m-s:=by omega
         exact⟨us,⟨hmu2,gB f5 hmu hsu (.refl _ _ _) (by rw[e1];exact f3.mv hmu (.inr (by omega)))⟩,rfl⟩)
    ·first
     | (exfalso;omega)
     | (refine wk ?_
        have e1:mid+m-s=mid:=by omega
        exact⟨us,⟨hmu2,gB f5 hmu hsu (.refl _ _ _) (by rw[e1]at f4;exact f4.mv hmu (.inr (by omega)))⟩,rfl⟩)
end Go.Proofs.YthdkkpocihkgbaaGreatDoor
namespace Go.Proofs.YthdkkpocihkgbaaGreatDoor
open Go.RowKit
attribute [local irreducible] AC Do St
theorem Fo:∀ (n:Nat) (xs:List (List D)) (a m b:Nat),b-a<n→(∀c∈xs,tm c)→a<m→m<b→b≤xs.length→xs.length≤1000000000→SrtR xs a m→SrtR xs m b→SymC xs a m b:=by
 intro n
 induction n with
 | zero=>intro xs a m b h;omega
 | succ n ih=>
   intro xs a m b h hx ham hmb hb hlen hA hB;exact BJ hx ham hmb hb hlen hA hB fun ys a' m' b' hy h1 h2 h3 h4 h5 h6 h7=>ih ys a' m' b' (by omega) hy h2 h3 h4 h5 h6 h7
theorem AB{xs:List (List D)}(hx:∀ c∈xs,tm c){a m b:Nat}{A M B:Int}(hA:A=(a:Int))(hM:M=(m:Int))(hB:B=(b:Int))(ham:a<m)(hmb:m<b)(hb:b≤xs.length)(hlen:xs.length≤1000000000)(sA:SrtR xs a m)(sB:SrtR xs m b):FnS Tryz.prog 278 161 4 xs [.d (.v (.int .i64 A)),.d (.v (.int .i64 M)),.d (.v (.int .i64 B)),.d fl] (fun ys=>Mv xs ys a b∧SrtR ys a b):=
 (Fo _ xs a m b (Nat.lt_succ_self _) hx ham hmb hb hlen sA sB).cast hA hM hB
theorem Aq{xs:List (List D)}(hx:∀ c∈xs,tm c){a b:Nat}{A B:Int}(hA:A=(a:Int))(hB:B=(b:Int))(hab:a≤b)(hb:b≤xs.length)(hlen:xs.length≤1000000000):FnS Tryz.prog 277 161 4 xs [.d (.v (.int .i64 A)),.d (.v (.int .i64 B)),.d fl] (fun ys=>Mv xs ys a b∧SrtR ys a b):=by
 subst hA hB;exact Fw hx hab hb hlen
def Da(zs:List (List D))(w n:Nat):Prop:=∀ k,SrtR zs (k*w) (min (k*w+w) n)
theorem SrtR.sub{xs:List (List D)}{a b c d:Nat}(h:SrtR xs a b)(h1:a≤c)(h2:d≤b):SrtR xs c d:=fun p q q1 q2 q3=>h p q (by omega) q2 (by omega)
structure InsB(xs zs:List (List D))(w k n:Nat):Prop where
 mv:Mv xs zs 0 n
 le:k*w≤n
 done:∀ j,j<k→SrtR zs (j*w) (j*w+w)
theorem InsB.step{xs zs ys:List (List D)}{w k n:Nat}(h:InsB xs zs w k n)(hle:k*w+w≤n)(hm:Mv zs ys (k*w) (k*w+w))(hs:SrtR ys (k*w) (k*w+w)):InsB xs ys w (k+1) n:=by
 refine⟨h.mv.trans (hm.mono (Nat.zero_le _) hle),by rw[Nat.add_mul];omega,fun j hj=>?_⟩;by_cases e:j=k
 ·rw[e];exact hs
 ·have:(j+1)*w≤k*w:=Nat.mul_le_mul_right _ (by omega);rw[Nat.add_mul]at this;exact(h.done j (by omega)).mv hm (.inl (by omega))
theorem InsB.fin{xs zs ys:List (List D)}{w k n:Nat}(h:InsB xs zs w k n)(hlt:n<k*w+w)(hm:Mv zs ys (k*w) n)(hs:SrtR ys (k*w) n):Mv xs ys 0 n∧Da ys w n:=by
 refine⟨h.mv.trans (hm.mono (Nat.zero_le _) (Nat.le_refl _)),fun j=>?_⟩;rcases Nat.lt_trichotomy j k with e | e | e
 ·have:(j+1)*w≤k*w:=Nat.mul_le_mul_right _ (by omega);rw[Nat.add_mul]at this;exact((h.done j e).mv hm (.inl (by omega))).sub (Nat.le_refl _) (by omega)
 ·rw[e];exact hs.sub (Nat.le_refl _) (by omega)
 ·have:(k+1)*w≤j*w:=Nat.mul_le_mul_right _ (by omega);rw[Nat.add_mul]at this;exact .one _ (by omega)
structure MrgB(xs zs:List (List D))(w k n:Nat):Prop where
 ins:InsB xs zs (w+w) k n
 rest:∀ j,k*(w+w)≤j*w→SrtR zs (j*w) (min (j*w+w) n)
theorem C7(k w:Nat):(2*k)*w=k*(w+w):=by rw[Nat.mul_add,Nat.mul_assoc,Nat.two_mul]
theorem CF(k w:Nat):(2*k+1)*w=k*(w+w)+w:=by rw[Nat.add_mul,C7,Nat.one_mul]
theorem MrgB.step{xs zs ys:List (List D)}{w k n:Nat}(h:MrgB xs zs w k n)(hle:k*(w+w)+(w+w)≤n)(hm:Mv zs ys (k*(w+w)) (k*(w+w)+(w+w)))(hs:SrtR ys (k*(w+w)) (k*(w+w)+(w+w))):MrgB xs ys w (k+1) n:=
 ⟨h.ins.step hle hm hs,fun j hj=>by
  rw[Nat.add_mul]at hj;exact(h.rest j (by omega)).mv hm (.inr (by omega))⟩
theorem D7{xs:List (List D)}(hx:∀ c∈xs,tm c)(hlen:xs.length≤1000000000):FnS Tryz.prog 258 161 4 xs [.d (.v (.int .i64 (xs.length:Int))),.d fl] (fun ys=>Mv xs ys 0 xs.length∧SrtR ys 0 xs.length):=by
 obtain⟨n,hn⟩:∃ n,n=xs.length:=⟨_,rfl⟩
 rw[←hn];refine FnS.of Tryz.func258 rfl (by kernel_rfl) Tryz.ntmps258 Tryz.results258 rfl fun w0 S0 v=>?_;refine wk ?_;refine AC.loop (X:=Nat×List (List D)) (fun x=>⟨[(0,.r 63 0),(1,.d (.v (.int .i64 (n:Int)))),(2,.d fl),(6,.d (.v (.int .i64 20))),(7,.d (.v (.int .i64 ((x.1*20:Nat):Int)))),(8,.d (.v (.int .i64 ((x.1*20+20:Nat):Int))))],[(63,.row 0 161 4 x.2)]⟩) (fun x=>InsB xs x.2 20 x.1 n) (fun x=>n-x.1*20) (0,xs) ⟨.refl _ _ _,by omega,fun j h=>absurd h (Nat.not_lt_zero _)⟩ ⟨rfl,rfl,rfl,rfl,rfl,rfl,trivial⟩ ⟨rfl,trivial⟩ ?_;rintro ⟨k,zs⟩ hi;dsimp only at hi ⊢;have hz:=hi.mv.om hx;have hzl:=hi.mv.len;have hle:=hi.le;refine wk ?_;(first | intro K ms hms hK | intro K hK);refine s1 (fun h1=>?_) (fun h1=>?_)
 ·refine wk ?_;((try (first | intro K ms hms hK | intro K hK));refine Ch.gq rfl rfl (Aq (a:=k*20) (b:=k*20+20) hz rfl rfl (by omega) (by omega) (by omega)) rfl rfl rfl ?_ ?_;(focus ((repeat (first | exact trivial | refine⟨.inl rfl,?_⟩ | refine⟨.inr rfl,?_⟩)))));rintro ys ⟨hm,hs⟩;refine wk ?_;exact⟨(k+1,ys),hi.step (by omega) hm hs,by dsimp only;omega,⟨rfl,rfl,rfl,rfl,iv (by dsimp only;omega),iv (by dsimp only;omega),trivial⟩,⟨rfl,trivial⟩⟩
 ·refine wk ?_;((try (first | intro K ms hms hK | intro K hK));refine Ch.gq rfl rfl (Aq (a:=k*20) (b:=n) hz rfl rfl (by omega) (by omega) (by omega)) rfl rfl rfl ?_ ?_;(focus ((repeat (first | exact trivial | refine⟨.inl rfl,?_⟩ | refine⟨.inr rfl,?_⟩)))));rintro ys ⟨hm,hs⟩;obtain⟨hmy,hby⟩:=hi.fin (by omega) hm hs;clear hi hz hzl hle hm hs h1;refine wk ?_;refine AC.loop (X:=Nat×List (List D)) (fun x=>⟨[(0,.r 63 0),(1,.d (.v (.int .i64 (n:Int)))),(2,.d fl),(6,.d (.v (.int .i64 ((x.1:Nat):Int))))],[(63,.row 0 161 4 x.2)]⟩) (fun x=>0<x.1∧Mv xs x.2 0 n∧Da x.2 x.1 n) (fun x=>n-x.1) (20,ys) ⟨by dsimp only;omega,hmy,hby⟩ ⟨rfl,rfl,rfl,rfl,trivial⟩ ⟨rfl,trivial⟩ ?_;rintro ⟨w,us⟩ ⟨hw,hmu,hbu⟩;dsimp only at hw hmu hbu ⊢;refine wk ?_;(first | intro K ms hms hK | intro K hK);refine s1 (fun h2=>?_) (fun h2=>?_)
  ·refine wk ?_;((try (first | intro K ms hms hK | intro K hK));(first | apply Ch.go | apply Ch.ah);exact rfl;exact rfl;exact Loc.mul rfl rfl rfl (IntWalk.i64_in _ (by omega)));refine wk ?_;refine AC.loop (X:=Nat×List (List D)) (fun x=>⟨[(0,.r 63 0),(1,.d (.v (.int .i64 (n:Int)))),(2,.d fl),(6,.d (.v (.int .i64 (w:Int)))),(7,.d (.v (.int .i64 ((x.1*(w+w):Nat):Int)))),(8,.d (.v (.int .i64 ((x.1*(w+w)+(w+w):Nat):Int))))],[(63,.row 0 161 4 x.2)]⟩) (fun x=>MrgB xs x.2 w x.1 n) (fun x=>n-x.1*(w+w)) (0,us) ⟨⟨hmu,by omega,fun j h=>absurd h (Nat.not_lt_zero _)⟩,fun j _=>hbu j⟩ ⟨rfl,rfl,rfl,rfl,iv (by dsimp only;omega),iv (by dsimp only;omega),trivial⟩ ⟨rfl,trivial⟩ ?_;rintro ⟨j,zs⟩ hi;dsimp only at hi ⊢;have hz:=hi.ins.mv.om hx;have hzl:=hi.ins.mv.len;have hle:=hi.ins.le;have r1:=hi.rest (2*j) (by rw[C7];exact Nat.le_refl _);have r2:=hi.rest (2*j+1) (by rw[CF];omega);rw[C7]at r1;rw[CF]at r2;have hstep:= @MrgB.step xs zs;have hfin:= @InsB.fin xs zs;have hins:=hi.ins;have hmul:(j+1)*(w+w)=j*(w+w)+(w+w):=by rw[Nat.add_mul,Nat.one_mul]
   refine wk ?_;(first | intro K ms hms hK | intro K hK);refine s1 (fun h3=>?_) (fun h3=>?_)
   ·refine wk ?_;((try (first | intro K ms hms hK | intro K hK));refine Ch.gq rfl rfl (AB (a:=j*(w+w)) (m:=j*(w+w)+w) (b:=j*(w+w)+(w+w)) hz rfl (show ((j*(w+w):Nat):Int)+(w:Int)=((j*(w+w)+w:Nat):Int)by omega) rfl (by omega) (by omega) (by omega) (by omega) (r1.sub (Nat.le_refl _) (by omega)) (r2.sub (Nat.le_refl _) (by omega))) rfl rfl rfl ?_ ?_;(focus ((repeat (first | exact trivial | refine⟨.inl rfl,?_⟩ | refine⟨.inr rfl,?_⟩)))));rintro vs ⟨hm,hs⟩;refine wk ?_;((try (first | intro K ms hms hK | intro K hK));(first | apply Ch.go | apply Ch.ah);exact rfl;exact rfl;exact Loc.mul rfl rfl rfl (IntWalk.i64_in _ (by omega)));refine wk ?_;exact⟨(j+1,vs),hi.step (by omega) hm hs,by dsimp only;rw[hmul];omega,⟨rfl,rfl,rfl,rfl,iv (by dsimp only;rw[hmul]),iv (by dsimp only;rw[hmul];omega),trivial⟩,⟨rfl,trivial⟩⟩
   ·by_cases h4:j*(w+w)+w<n
    ·refine wk ?_;((try (first | intro K ms hms hK | intro K hK));refine Ch.gq rfl rfl (AB (a:=j*(w+w)) (m:=j*(w+w)+w) (b:=n) hz rfl (show ((j*(w+w):Nat):Int)+(w:Int)=((j*(w+w)+w:Nat):Int)by omega) rfl (by omega) h4 (by omega) (by omega) (r1.sub (Nat.le_refl _) (by omega)) (r2.sub (Nat.le_refl _) (by omega))) rfl rfl rfl ?_ ?_;(focus ((repeat (first | exact trivial | refine⟨.inl rfl,?_⟩ | refine⟨.inr rfl,?_⟩)))));rintro vs ⟨hm,hs⟩;obtain⟨f1,f2⟩:=hins.fin (by omega) hm hs;refine wk ?_;((try (first | intro K ms hms hK | intro K hK));(first | apply Ch.go | apply Ch.ah);exact rfl;exact rfl;exact Loc.mul rfl rfl rfl (IntWalk.i64_in _ (by omega)));refine wk ?_;exact⟨(w+w,vs),⟨by dsimp only;omega,f1,f2⟩,by dsimp only;omega,⟨rfl,rfl,rfl,iv (by dsimp only;omega),trivial⟩,⟨rfl,trivial⟩⟩
    ·obtain⟨f1,f2⟩:=hins.fin (by omega) (.refl _ _ _) (r1.sub (Nat.le_refl _) (by omega));refine wk ?_;((try (first | intro K ms hms hK | intro K hK));(first | apply Ch.go | apply Ch.ah);exact rfl;exact rfl;exact Loc.mul rfl rfl rfl (IntWalk.i64_in _ (by omega)));refine wk ?_;exact⟨(w+w,zs),⟨by dsimp only;omega,f1,f2⟩,by dsimp only;omega,⟨rfl,rfl,rfl,iv (by dsimp only;omega),trivial⟩,⟨rfl,trivial⟩⟩
  ·refine wk ?_;exact⟨us,⟨hmu,(hbu 0).sub (by omega) (by omega)⟩,rfl⟩
theorem DJ{xs:List (List D)}(hx:∀ c∈xs,tm c)(hlen:xs.length≤1000000000):FnS Tryz.prog 233 161 4 xs [.d fl] (fun ys=>Mv xs ys 0 xs.length∧SrtR ys 0 xs.length):=by
 refine FnS.of Tryz.func233 rfl (by kernel_rfl) Tryz.ntmps233 Tryz.results233 rfl fun w0 S0 v=>?_;refine wk ?_;((try (first | intro K ms hms hK | intro K hK));refine Ch.gq rfl rfl (D7 hx hlen) rfl rfl rfl ?_ ?_;(focus ((repeat (first | exact trivial | refine⟨.inl rfl,?_⟩ | refine⟨.inr rfl,?_⟩)))));rintro ys hy;refine wk ?_;exact⟨ys,hy,rfl⟩
end Go.Proofs.YthdkkpocihkgbaaGreatDoor
namespace Go.Proofs.YthdkkpocihkgbaaGreatDoor
open Go.RowKit
attribute [local irreducible] AC Do St
theorem xV{xs:List (List D)}(hk:∀ c∈xs,c.length=4)(hlen:xs.length≤1000000000):FnRow Tryz.prog 232 [.d (.l xs)] 161 4 xs:=by
 refine FnRow.of Tryz.func232 rfl (by kernel_rfl) Tryz.ntmps232 Tryz.results232 rfl fun w0 S0=>?_;refine wk ?_;(first | intro K ms hms hK | intro K hK);refine Ch.EY rfl rfl rfl rfl (fun h u=>?_) (fun u=>?_)
 ·subst h
  (repeat (first
    | refine Ch.no rfl rfl ?_
    | refine Ch.iX rfl rfl ?_
    | ((first | apply Ch.go | apply Ch.ah);exact rfl;exact rfl;first
      | exact Loc.move (v:= .d _) rfl rfl
      | exact Loc.assign (v:= .d _) rfl rfl
      | exact Loc.c7 rfl rfl rfl rfl
      | exact Loc.cU rfl rfl rfl
      | exact Loc.cY rfl rfl rfl
      | exact Loc.cV rfl rfl
      | exact Loc.bh (v:= .d _) rfl rfl rfl
      | exact Loc.bk (v:= .d _) rfl rfl rfl
      | exact Loc.cz rfl rfl rfl rfl (by kernel_rfl)
      | exact Loc.cZ rfl rfl rfl
      | exact Loc.cQ rfl rfl rfl rfl
      | exact Loc.ea rfl rfl rfl rfl (by assumption) rfl
      | exact Loc.fN rfl rfl
      | exact Loc.fP rfl rfl
      | exact Loc.fM rfl rfl rfl
      | exact Loc.len rfl rfl
      | exact Loc.eb rfl rfl rfl (by omega)
      | exact Loc.eG rfl rfl rfl (by omega)
      | exact Loc.ec rfl rfl rfl (by omega)
      | exact Loc.eE rfl rfl rfl (by omega)
      | exact Loc.eP rfl rfl rfl (by omega)
      | exact Loc.eM rfl rfl rfl (by omega)
      | exact Loc.eD rfl rfl rfl (by omega)
      | exact Loc.eF rfl rfl rfl (by omega)
      | exact Loc.gn rfl rfl rfl (by omega)
      | exact Loc.gp rfl rfl rfl (by omega)
      | exact Loc.gG rfl rfl rfl (by omega)
      | exact Loc.gH rfl rfl rfl (by omega)
      | exact Loc.add rfl rfl rfl (IntWalk.i64_in _ (by omega))
      | exact Loc.sub rfl rfl rfl (IntWalk.i64_in _ (by omega))
      | exact Loc.fL rfl rfl
      | exact Loc.fJ rfl rfl
      | exact Loc.cW rfl rfl rfl
      | exact Loc.c8 rfl rfl rfl (by assumption) rfl
      | exact Loc.cB rfl rfl rfl rfl rfl (by omega) rfl
      | exact Loc.move (v:= .g _) rfl rfl
      | exact Loc.move (v:= .p _ _) rfl rfl
      | exact Loc.move (v:= .r _ _) rfl rfl
      | exact Loc.move (v:= .t _) rfl rfl
      | exact Loc.assign (v:= .g _) rfl rfl
      | exact Loc.assign (v:= .r _ _) rfl rfl
      | exact Loc.assign (v:= .p _ _) rfl rfl
      | exact Loc.extract (v:= .d _) rfl rfl rfl rfl
      | exact Loc.extract (v:= .g _) rfl rfl rfl rfl
      | exact Loc.bh (v:= .g _) rfl rfl rfl
      | exact Loc.bk (v:= .g _) rfl rfl rfl
      | exact Loc.move (v:= .un) rfl rfl
      | exact Loc.build rfl rfl rfl rfl
      | exact Loc.df rfl rfl rfl rfl rfl rfl rfl)
    | refine Ch.eO (hK _ ?_)
    | ((first | apply Ch.st | apply Ch.aU);exact rfl;exact rfl;(first
      | exact Do.aC rfl rfl rfl rfl .g rfl rfl rfl
      | exact Do.aC rfl rfl rfl rfl .d rfl rfl rfl
      | exact Do.aC rfl rfl rfl rfl (.r rfl) rfl rfl rfl);exact rfl;exact rfl)
    | ((first | apply Ch.ef | apply Ch.bU);exact rfl;exact rfl;(first
      | exact Do.alloc rfl rfl rfl
      | exact Do.box rfl rfl rfl .g rfl
      | exact Do.box rfl rfl rfl .d rfl
      | exact Do.fI rfl rfl
      | exact Do.ck rfl rfl rfl rfl rfl rfl (by first | omega | (simp;omega))
      | exact Do.bS rfl rfl rfl rfl rfl rfl);exact rfl;exact rfl)
    | refine Ch.fK (by rw[hms];kernel_rfl) (hK _ ?_)
    | refine Ch.iY rfl rfl ?_))
  refine AC.jg rfl ?_;refine AC.seq ?_;refine AC.mm (by decide+kernel) ?_;(first | intro K ms hms hK | intro K hK)
  (repeat (first
    | refine Ch.no rfl rfl ?_
    | refine Ch.iX rfl rfl ?_
    | ((first | apply Ch.go | apply Ch.ah);exact rfl;exact rfl;first
      | exact Loc.move (v:= .d _) rfl rfl
      | exact Loc.assign (v:= .d _) rfl rfl
      | exact Loc.c7 rfl rfl rfl rfl
      | exact Loc.cU rfl rfl rfl
      | exact Loc.cY rfl rfl rfl
      | exact Loc.cV rfl rfl
      | exact Loc.bh (v:= .d _) rfl rfl rfl
      | exact Loc.bk (v:= .d _) rfl rfl rfl
      | exact Loc.cz rfl rfl rfl rfl (by kernel_rfl)
      | exact Loc.cZ rfl rfl rfl
      | exact Loc.cQ rfl rfl rfl rfl
      | exact Loc.ea rfl rfl rfl rfl (by assumption) rfl
      | exact Loc.fN rfl rfl
      | exact Loc.fP rfl rfl
      | exact Loc.fM rfl rfl rfl
      | exact Loc.len rfl rfl
      | exact Loc.eb rfl rfl rfl (by omega)
      | exact Loc.eG rfl rfl rfl (by omega)
      | exact Loc.ec rfl rfl rfl (by omega)
      | exact Loc.eE rfl rfl rfl (by omega)
      | exact Loc.eP rfl rfl rfl (by omega)
      | exact Loc.eM rfl rfl rfl (by omega)
      | exact Loc.eD rfl rfl rfl (by omega)
      | exact Loc.eF rfl rfl rfl (by omega)
      | exact Loc.gn rfl rfl rfl (by omega)
      | exact Loc.gp rfl rfl rfl (by omega)
      | exact Loc.gG rfl rfl rfl (by omega)
      | exact Loc.gH rfl rfl rfl (by omega)
      | exact Loc.add rfl rfl rfl (IntWalk.i64_in _ (by omega))
      | exact Loc.sub rfl rfl rfl (IntWalk.i64_in _ (by omega))
      | exact Loc.fL rfl rfl
      | exact Loc.fJ rfl rfl
      | exact Loc.cW rfl rfl rfl
      | exact Loc.c8 rfl rfl rfl (by assumption) rfl
      | exact Loc.cB rfl rfl rfl rfl rfl (by omega) rfl
      | exact Loc.move (v:= .g _) rfl rfl
      | exact Loc.move (v:= .p _ _) rfl rfl
      | exact Loc.move (v:= .r _ _) rfl rfl
      | exact Loc.move (v:= .t _) rfl rfl
      | exact Loc.assign (v:= .g _) rfl rfl
      | exact Loc.assign (v:= .r _ _) rfl rfl
      | exact Loc.assign (v:= .p _ _) rfl rfl
      | exact Loc.extract (v:= .d _) rfl rfl rfl rfl
      | exact Loc.extract (v:= .g _) rfl rfl rfl rfl
      | exact Loc.bh (v:= .g _) rfl rfl rfl
      | exact Loc.bk (v:= .g _) rfl rfl rfl
      | exact Loc.move (v:= .un) rfl rfl
      | exact Loc.build rfl rfl rfl rfl
      | exact Loc.df rfl rfl rfl rfl rfl rfl rfl)
    | refine Ch.eO (hK _ ?_)
    | ((first | apply Ch.st | apply Ch.aU);exact rfl;exact rfl;(first
      | exact Do.aC rfl rfl rfl rfl .g rfl rfl rfl
      | exact Do.aC rfl rfl rfl rfl .d rfl rfl rfl
      | exact Do.aC rfl rfl rfl rfl (.r rfl) rfl rfl rfl);exact rfl;exact rfl)
    | ((first | apply Ch.ef | apply Ch.bU);exact rfl;exact rfl;(first
      | exact Do.alloc rfl rfl rfl
      | exact Do.box rfl rfl rfl .g rfl
      | exact Do.box rfl rfl rfl .d rfl
      | exact Do.fI rfl rfl
      | exact Do.ck rfl rfl rfl rfl rfl rfl (by first | omega | (simp;omega))
      | exact Do.bS rfl rfl rfl rfl rfl rfl);exact rfl;exact rfl)
    | refine Ch.fK (by rw[hms];kernel_rfl) (hK _ ?_)
    | refine Ch.iY rfl rfl ?_))
  refine AC.j7 2 7 161 4 rfl rfl ?_;refine wk ?_;exact⟨2,7,0,rfl,rfl,rfl⟩
 ·refine wk ?_;((try (first | intro K ms hms hK | intro K hK));(first | apply Ch.ef | apply Ch.bU);exact rfl;exact rfl;exact Do.append rfl rfl rfl rfl rfl hk (by simp;omega);exact rfl;exact rfl);refine wk ?_;exact⟨2,5,1,rfl,rfl,rfl⟩
