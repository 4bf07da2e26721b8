import Derived.Test.YtbbpecfapohlaaaGreatDoorBr
import Derived.Test.YtbbpecfapohlaaaGreatDoorTy
import Derived.Test.YtbbpecfapohlaaaGreatDoorK3
import Derived.Test.YtbbpecfapohlaaaGreatDoorRef8
set_option maxRecDepth 100000
set_option maxHeartbeats 4000000
namespace Go.Proofs.YtbbpecfapohlaaaGreatDoor
open Go.RowKit
attribute [local irreducible] AC Do St
def tm(c:List D):Prop:=(∃n x y z,c=[.v (.int .i64 n),x,y,z])∧c.map D.fg=c
def ky:List D→Int
 | .v (.int .i64 n)::_=>n
 | _=>0
def cmpK(x y:Int):Int:=if x<y then-1 else if x>y then 1 else 0
theorem tm.len{c:List D}(h:tm c):c.length=4:=by obtain⟨⟨n,x,y,z,rfl⟩,_⟩:=h;rfl
theorem tms_get{ys:List (List D)}(h:∀ c∈ys,tm c){i:Nat}(hi:i<ys.length):ys[i]?=some ys[i]∧ys[i].length=4:=⟨List.getElem?_eq_getElem hi,(h _ (List.getElem_mem hi)).len⟩
theorem tms_set{ys:List (List D)}(h:∀ c∈ys,tm c){i:Nat}{d:List D}(hd:tm d):∀ c∈ys.set i d,tm c:=fun c hc=>by
 rcases List.mem_or_eq_of_mem_set hc with h1 | h1
 ·exact h c h1
 ·rw[h1];exact hd
structure Mv(xs ys:List (List D))(a b:Nat):Prop where
 perm:ys.Perm xs
 out:∀ p,p<a∨b≤p→ys[p]?=xs[p]?
 inn:∀ p,a≤p→p<b→∃ q,a≤q∧q<b∧ys[p]?=xs[q]?
theorem Mv.refl(xs:List (List D))(a b:Nat):Mv xs xs a b:=⟨.refl _,fun _ _=>rfl,fun p h1 h2=>⟨p,h1,h2,rfl⟩⟩
theorem Mv.trans{xs ys zs:List (List D)}{a b:Nat}(h:Mv xs ys a b)(h2:Mv ys zs a b):Mv xs zs a b:=
 ⟨h2.perm.trans h.perm,fun p hp=>(h2.out p hp).trans (h.out p hp),fun p h3 h4=>by
  obtain⟨q,q1,q2,q3⟩:=h2.inn p h3 h4;obtain⟨r,r1,r2,r3⟩:=h.inn q q1 q2;exact⟨r,r1,r2,q3.trans r3⟩⟩
theorem Mv.mono{xs ys:List (List D)}{a b a' b':Nat}(h:Mv xs ys a b)(h1:a'≤a)(h2:b≤b'):Mv xs ys a' b':=
 ⟨h.perm,fun p hp=>h.out p (by omega),fun p h3 h4=>by
  by_cases hp:a≤p∧p<b
  ·obtain⟨q,q1,q2,q3⟩:=h.inn p hp.1 hp.2;exact⟨q,by omega,by omega,q3⟩
  ·exact⟨p,h3,h4,h.out p (by omega)⟩⟩
theorem Mv.len{xs ys:List (List D)}{a b:Nat}(h:Mv xs ys a b):ys.length=xs.length:=h.perm.length_eq
theorem Mv.tms{xs ys:List (List D)}{a b:Nat}(h:Mv xs ys a b)(hx:∀ c∈xs,tm c):∀ c∈ys,tm c:=fun c hc=>hx c (h.perm.mem_iff.1 hc)
theorem Mv.swap(xs:List (List D)){a b i j:Nat}(hi:a≤i∧i<b)(hj:a≤j∧j<b)(hli:i<xs.length)(hlj:j<xs.length):Mv xs ((xs.set i xs[j]).set j xs[i]) a b:=by
 refine⟨List.set_set_perm hli hlj,fun p hp=>?_,fun p h1 h2=>?_⟩
 ·rw[List.getElem?_set_ne (by omega),List.getElem?_set_ne (by omega)]
 ·by_cases e1:j=p
  ·subst e1;exact⟨i,hi.1,hi.2,by rw[List.getElem?_set_self (by simpa using hlj),List.getElem?_eq_getElem hli]⟩
  ·rw[List.getElem?_set_ne e1];by_cases e2:i=p
   ·subst e2;exact⟨j,hj.1,hj.2,by rw[List.getElem?_set_self hli,List.getElem?_eq_getElem hlj]⟩
   ·rw[List.getElem?_set_ne e2];exact⟨p,h1,h2,rfl⟩
theorem cmpF{a b:List D}(ha:tm a)(hb:tm b):Fn Tryz.prog 237 [.g a,.g b] [.d (.v (.int .i64 (cmpK (ky a) (ky b))))]:=by
 obtain⟨⟨n,x,y,z,rfl⟩,_⟩:=ha;obtain⟨⟨n',x',y',z',rfl⟩,_⟩:=hb;refine Fn.of Tryz.func237 rfl (by kernel_rfl) Tryz.ntmps237 Tryz.results237 rfl fun w0 S0=>?_;refine wk ?_;(first | intro K ms hms hK | intro K hK);refine s1 (fun h1=>?_) (fun h1=>?_)
 ·have:cmpK n n'= -1:=by unfold cmpK;rw[if_pos h1]
  refine wk ?_;show ressOK _ _ _ [.d (.v (.int .i64 (cmpK n n')))];rw[this];exact⟨.d rfl (.inl rfl),trivial⟩
 ·refine wk ?_;(first | intro K ms hms hK | intro K hK);refine s1 (fun h2=>?_) (fun h2=>?_)
  ·have:cmpK n n'=1:=by unfold cmpK;rw[if_neg h1,if_pos h2]
   refine wk ?_;show ressOK _ _ _ [.d (.v (.int .i64 (cmpK n n')))];rw[this];exact⟨.d rfl (.inl rfl),trivial⟩
  ·have:cmpK n n'=0:=by unfold cmpK;rw[if_neg h1,if_neg h2]
   refine wk ?_;show ressOK _ _ _ [.d (.v (.int .i64 (cmpK n n')))];rw[this];exact⟨.d rfl (.inl rfl),trivial⟩
def swapAt(xs ys:List (List D))(a b i:Nat):Prop:=ys.length=xs.length∧∀ j,ys[j]?=if a≤j∧j<a+i then xs[b+(j-a)]? else if b≤j∧j<b+i then xs[a+(j-b)]? else xs[j]?
theorem swapAt.zero(xs:List (List D))(a b:Nat):swapAt xs xs a b 0:=⟨rfl,fun j=>by rw[if_neg (by omega),if_neg (by omega)]⟩
theorem swapAt.step{xs ys:List (List D)}{a b i n:Nat}(h:swapAt xs ys a b i)(hab:a+n≤b)(hb:b+n≤ys.length)(hi:i<n):swapAt xs ((ys.set (a+i) (ys[b+i]'(by omega))).set (b+i) (ys[a+i]'(by omega))) a b (i+1):=by
 refine⟨by simpa using h.1,fun j=>?_⟩;have h1:some (ys[b+i]'(by omega))=xs[b+i]?:=by
  rw[←List.getElem?_eq_getElem,h.2,if_neg (by omega),if_neg (by omega)]
 have h2:some (ys[a+i]'(by omega))=xs[a+i]?:=by
  rw[←List.getElem?_eq_getElem,h.2,if_neg (by omega),if_neg (by omega)]
 rw[List.getElem?_set,List.getElem?_set];by_cases e1:b+i=j
 ·rw[if_pos e1,if_pos (by simp;omega),h2,if_neg (by omega),if_pos (by omega)]
  congr 1;omega
 ·rw[if_neg e1];by_cases e2:a+i=j
  ·rw[if_pos e2,if_pos (by omega),h1,if_pos (by omega)]
   congr 1;omega
  ·rw[if_neg e2,h.2];have q1:(a≤j∧j<a+(i+1))↔(a≤j∧j<a+i):=by omega
   have q2:(b≤j∧j<b+(i+1))↔(b≤j∧j<b+i):=by omega
   simp only[q1,q2]
theorem swapF{xs:List (List D)}(hx:∀ c∈xs,tm c){a b n:Nat}(hab:a+n≤b)(hb:b+n≤xs.length)(hlen:xs.length≤1000000000)(f:D):FnS Tryz.prog 326 178 4 xs [.d (.v (.int .i64 (a:Int))),.d (.v (.int .i64 (b:Int))),.d (.v (.int .i64 (n:Int))),.d f] (fun ys=>swapAt xs ys a b n∧Mv xs ys a (b+n)):=by
 refine FnS.of Tryz.func326 rfl (by kernel_rfl) Tryz.ntmps326 Tryz.results326 rfl fun w0 S0 v=>?_;refine wk ?_;refine AC.loop (X:=Nat×List (List D)) (fun x=>⟨[(0,.r 38 0),(1,.d (.v (.int .i64 (a:Int)))),(2,.d (.v (.int .i64 (b:Int)))),(3,.d (.v (.int .i64 (n:Int)))),(10,.d (.v (.int .i64 (x.1:Int))))],[(38,.row 0 178 4 x.2)]⟩) (fun x=>x.1≤n∧swapAt xs x.2 a b x.1∧Mv xs x.2 a (b+n)) (fun x=>n-x.1) (0,xs) ⟨Nat.zero_le _,.zero _ _ _,.refl _ _ _⟩ ⟨rfl,rfl,rfl,rfl,rfl,trivial⟩ ⟨rfl,trivial⟩ ?_;rintro ⟨i,ys⟩ ⟨hi,hsw,hmv⟩;dsimp only at hi hsw hmv ⊢;have hy:=hmv.tms hx;have hyl:=hsw.1;refine wk ?_;(first | intro K ms hms hK | intro K hK);refine s1 (fun h1=>?_) (fun h1=>?_)
 ·refine wk ?_;((try (first | intro K ms hms hK | intro K hK));(first | apply Chain.go | apply Chain.goD);exact rfl;exact rfl;exact Loc.loadEw rfl rfl rfl (tms_get hy (i:=b+i) (by omega)) rfl);refine wk ?_;((try (first | intro K ms hms hK | intro K hK));(first | apply Chain.go | apply Chain.goD);exact rfl;exact rfl;exact Loc.loadEw rfl rfl rfl (tms_get hy (i:=a+i) (by omega)) rfl);refine wk ?_;((try (first | intro K ms hms hK | intro K hK));(first | apply Chain.st | apply Chain.stD);exact rfl;exact rfl;exact Do.storeEw rfl rfl rfl ⟨_,tms_get hy (i:=a+i) (by omega)⟩ rfl ⟨(hy _ (List.getElem_mem _)).2,(hy _ (List.getElem_mem _)).len⟩ rfl rfl rfl;exact rfl;exact rfl);have hy1:∀ c∈ys.set (a+i) (ys[b+i]'(by omega)),tm c:=tms_set hy (hy _ (List.getElem_mem _));have hl1:(ys.set (a+i) (ys[b+i]'(by omega))).length=ys.length:=by simp
  refine wk ?_;((try (first | intro K ms hms hK | intro K hK));(first | apply Chain.st | apply Chain.stD);exact rfl;exact rfl;exact Do.storeEw rfl rfl rfl ⟨_,tms_get hy1 (i:=b+i) (by omega)⟩ rfl ⟨(hy _ (List.getElem_mem _)).2,(hy _ (List.getElem_mem _)).len⟩ rfl rfl rfl;exact rfl;exact rfl);refine wk ?_;exact⟨(i+1,_),⟨by omega,hsw.step (n:=n) (by omega) (by omega) (by omega),hmv.trans (.swap ys (by omega) (by omega) (by omega) (by omega))⟩,by dsimp only;omega,⟨rfl,rfl,rfl,rfl,rfl,trivial⟩,⟨rfl,trivial⟩⟩
 ·refine wk ?_;have:i=n:=by omega
  subst this;exact⟨ys,⟨hsw,hmv⟩,rfl⟩
theorem iv{x y:Int}(h:x=y):some (AV.d (D.v (Value.int .i64 x)))=some (AV.d (D.v (Value.int .i64 y))):=by rw[h]
theorem swapF'{xs:List (List D)}(hx:∀ c∈xs,tm c){a b n:Nat}{A B N:Int}(hA:A=(a:Int))(hB:B=(b:Int))(hN:N=(n:Int))(hab:a+n≤b)(hb:b+n≤xs.length)(hlen:xs.length≤1000000000)(f:D):FnS Tryz.prog 326 178 4 xs [.d (.v (.int .i64 A)),.d (.v (.int .i64 B)),.d (.v (.int .i64 N)),.d f] (fun ys=>swapAt xs ys a b n∧Mv xs ys a (b+n)):=by
 subst hA hB hN;exact swapF hx hab hb hlen f
def swI(a b n p:Nat):Nat:=if a≤p∧p<a+n then b+(p-a)else if b≤p∧p<b+n then a+(p-b)else p
theorem swapAt.idx{xs ys:List (List D)}{a b n:Nat}(h:swapAt xs ys a b n)(p:Nat):ys[p]?=xs[swI a b n p]?:=by
 rw[h.2];unfold swI;split
 ·rfl
 ·split<;>rfl
def rotI(lo m hi p:Nat):Nat:=if lo≤p∧p<lo+(hi-m)then p+(m-lo)else if lo+(hi-m)≤p∧p<hi then p-(hi-m)else p
theorem rot_gt{m i j:Nat}(hi:i≤m)(hj:1≤j)(h:j<i)(p:Nat):swI (m-i) m j (rotI (m-(i-j)) m (m+j) p)=rotI (m-i) m (m+j) p:=by
 unfold rotI
 repeat' split
 all_goals (unfold swI;repeat' split)
 all_goals omega
theorem rot_lt{m i j:Nat}(hi:i≤m)(hj:1≤i)(h:i<j)(p:Nat):swI (m-i) (m+j-i) i (rotI (m-i) m (m+(j-i)) p)=rotI (m-i) m (m+j) p:=by
 unfold rotI
 repeat' split
 all_goals (unfold swI;repeat' split)
 all_goals omega
theorem rot_eq{m i:Nat}(hi:i≤m)(p:Nat):swI (m-i) m i p=rotI (m-i) m (m+i) p:=by
 unfold rotI
 repeat' split
 all_goals (unfold swI;repeat' split)
 all_goals omega
def rotAt(xs ys:List (List D))(a m b:Nat):Prop:=ys.length=xs.length∧∀ p,ys[p]?=xs[rotI a m b p]?
theorem rotF{xs:List (List D)}(hx:∀ c∈xs,tm c){a m b:Nat}(ham:a<m)(hmb:m<b)(hb:b≤xs.length)(hlen:xs.length≤1000000000)(f:D):FnS Tryz.prog 317 178 4 xs [.d (.v (.int .i64 (a:Int))),.d (.v (.int .i64 (m:Int))),.d (.v (.int .i64 (b:Int))),.d f] (fun ys=>rotAt xs ys a m b∧Mv xs ys a b):=by
 refine FnS.of Tryz.func317 rfl (by kernel_rfl) Tryz.ntmps317 Tryz.results317 rfl fun w0 S0 v=>?_;refine wk ?_;refine AC.loop (X:=Nat×Nat×List (List D)) (fun x=>⟨[(0,.r 58 0),(1,.d (.v (.int .i64 (a:Int)))),(2,.d (.v (.int .i64 (m:Int)))),(3,.d (.v (.int .i64 (b:Int)))),(4,.d f),(10,.d (.v (.int .i64 (x.1:Int)))),(11,.d (.v (.int .i64 (x.2.1:Int))))],[(58,.row 0 178 4 x.2.2)]⟩) (fun x=>1≤x.1∧x.1+a≤m∧1≤x.2.1∧m+x.2.1≤b∧x.2.2.length=xs.length∧(∀p,x.2.2[rotI (m-x.1) m (m+x.2.1) p]?=xs[rotI a m b p]?)∧Mv xs x.2.2 a b) (fun x=>x.1+x.2.1) (m-a,b-m,xs) ⟨by dsimp only;omega,by dsimp only;omega,by dsimp only;omega,by dsimp only;omega,rfl,fun p=>by dsimp only;rw[show m-(m-a)=a by omega,show m+(b-m)=b by omega],.refl _ _ _⟩ ⟨rfl,rfl,rfl,rfl,rfl,iv (by dsimp only;omega),iv (by dsimp only;omega),trivial⟩ ⟨rfl,trivial⟩ ?_;rintro ⟨i,j,ys⟩ ⟨hi,him,hj,hjm,hyl,hrot,hmv⟩;dsimp only at hi him hj hjm hyl hrot hmv ⊢;have hy:=hmv.tms hx;refine wk ?_;(first | intro K ms hms hK | intro K hK);refine s1 (fun h1=>?_) (fun h1=>?_)
 ·refine wk ?_;(first | intro K ms hms hK | intro K hK);refine s1 (fun h2=>?_) (fun h2=>?_)
  ·refine wk ?_;((try (first | intro K ms hms hK | intro K hK));refine Chain.callS rfl rfl (swapF' (a:=m-i) (b:=m) (n:=j) hy (show (m:Int)-(i:Int)=((m-i:Nat):Int)by omega) rfl rfl (by omega) (by omega) (by omega) f) rfl rfl rfl ?_ ?_;(focus ((repeat (first | exact trivial | refine⟨.inl rfl,?_⟩ | refine⟨.inr rfl,?_⟩)))));rintro zs ⟨hsw,hz⟩;refine wk ?_;exact⟨(i-j,j,zs),⟨by dsimp only;omega,by dsimp only;omega,hj,hjm,hsw.1.trans hyl,fun p=>by dsimp only;rw[hsw.idx,rot_gt (by omega) hj (by omega),hrot],hmv.trans (hz.mono (by omega) (by omega))⟩,by dsimp only;omega,⟨rfl,rfl,rfl,rfl,rfl,iv (by dsimp only;omega),rfl,trivial⟩,⟨rfl,trivial⟩⟩
  ·refine wk ?_;((try (first | intro K ms hms hK | intro K hK));refine Chain.callS rfl rfl (swapF' (a:=m-i) (b:=m+j-i) (n:=i) hy (show (m:Int)-(i:Int)=((m-i:Nat):Int)by omega) (show (m:Int)+(j:Int)-(i:Int)=((m+j-i:Nat):Int)by omega) rfl (by omega) (by omega) (by omega) f) rfl rfl rfl ?_ ?_;(focus ((repeat (first | exact trivial | refine⟨.inl rfl,?_⟩ | refine⟨.inr rfl,?_⟩)))));rintro zs ⟨hsw,hz⟩;refine wk ?_;exact⟨(i,j-i,zs),⟨hi,him,by dsimp only;omega,by dsimp only;omega,hsw.1.trans hyl,fun p=>by dsimp only;rw[hsw.idx,rot_lt (by omega) hi (by omega),hrot],hmv.trans (hz.mono (by omega) (by omega))⟩,by dsimp only;omega,⟨rfl,rfl,rfl,rfl,rfl,rfl,iv (by dsimp only;omega),trivial⟩,⟨rfl,trivial⟩⟩
 ·have hij:i=j:=by omega
  subst hij;refine wk ?_;((try (first | intro K ms hms hK | intro K hK));refine Chain.callS rfl rfl (swapF' (a:=m-i) (b:=m) (n:=i) hy (show (m:Int)-(i:Int)=((m-i:Nat):Int)by omega) rfl rfl (by omega) (by omega) (by omega) f) rfl rfl rfl ?_ ?_;(focus ((repeat (first | exact trivial | refine⟨.inl rfl,?_⟩ | refine⟨.inr rfl,?_⟩)))));rintro zs ⟨hsw,hz⟩;refine wk ?_;exact⟨zs,⟨⟨hsw.1.trans hyl,fun p=>by rw[hsw.idx,rot_eq (by omega),hrot]⟩,hmv.trans (hz.mono (by omega) (by omega))⟩,rfl⟩
end Go.Proofs.YtbbpecfapohlaaaGreatDoor
namespace Go.Proofs.YtbbpecfapohlaaaGreatDoor
open Go.RowKit
attribute [local irreducible] AC Do St
def kat(xs:List (List D))(p:Nat):Int:=ky (xs[p]?.getD [])
theorem kat_eq{xs ys:List (List D)}{p q:Nat}(h:ys[p]?=xs[q]?):kat ys p=kat xs q:=by unfold kat;rw[h]
theorem kat_get{xs:List (List D)}{p:Nat}(h:p<xs.length):ky xs[p]=kat xs p:=by unfold kat;rw[List.getElem?_eq_getElem h];rfl
theorem kat_swap{xs:List (List D)}{i j:Nat}(hli:i<xs.length)(hlj:j<xs.length)(p:Nat):kat ((xs.set i xs[j]).set j xs[i]) p=if p=j then kat xs i else if p=i then kat xs j else kat xs p:=by
 unfold kat;by_cases e1:p=j
 ·subst e1;rw[if_pos rfl,List.getElem?_set_self (by simpa using hlj),List.getElem?_eq_getElem hli]
 ·rw[if_neg e1,List.getElem?_set_ne (Ne.symm e1)];by_cases e2:p=i
  ·subst e2;rw[if_pos rfl,List.getElem?_set_self hli,List.getElem?_eq_getElem hlj]
  ·rw[if_neg e2,List.getElem?_set_ne (Ne.symm e2)]
def SrtR(xs:List (List D))(a b:Nat):Prop:=∀ p q,a≤p→p<q→q<b→kat xs p≤kat xs q
theorem cmpK_neg(x y:Int):cmpK x y<0↔x<y:=by
 unfold cmpK;split
 ·omega
 ·split<;>omega
def InsI(ys:List (List D))(a i j:Nat):Prop:=∀ p q,a≤p→p<q→q≤i→q≠j→kat ys p≤kat ys q
theorem InsI.step{ys:List (List D)}{a i j:Nat}(h:InsI ys a i j)(hj:a<j)(hji:j≤i)(hl:i<ys.length)(hk:kat ys j<kat ys (j-1)):InsI ((ys.set j (ys[j-1]'(by omega))).set (j-1) (ys[j]'(by omega))) a i (j-1):=by
 intro p q h1 h2 h3 h4;rw[kat_swap (by omega) (by omega),kat_swap (by omega) (by omega),if_neg h4];by_cases e1:q=j
 ·rw[if_pos e1];by_cases e2:p=j-1
  ·rw[if_pos e2];omega
  ·rw[if_neg e2,if_neg (by omega)];exact h p (j-1) h1 (by omega) (by omega) (by omega)
 ·rw[if_neg e1];by_cases e2:p=j-1
  ·rw[if_pos e2];exact h j q (by omega) (by omega) h3 e1
  ·rw[if_neg e2];by_cases e3:p=j
   ·rw[if_pos e3];exact h (j-1) q (by omega) (by omega) h3 e1
   ·rw[if_neg e3];exact h p q h1 h2 h3 e1
theorem InsI.done{ys:List (List D)}{a i j:Nat}(h:InsI ys a i j)(hk:j≤a∨kat ys (j-1)≤kat ys j):SrtR ys a (i+1):=by
 intro p q h1 h2 h3;by_cases e:q=j
 ·rcases hk with hk | hk
  ·omega
  ·subst e;by_cases e2:p=q-1
   ·subst e2;exact hk
   ·exact Int.le_trans (h p (q-1) h1 (by omega) (by omega) (by omega)) hk
 ·exact h p q h1 h2 (by omega) e
theorem cmpAt{zs:List (List D)}(hz:∀ c∈zs,tm c){i j:Nat}(hi:i<zs.length)(hj:j<zs.length):Fn Tryz.prog 237 [.g zs[i],.g zs[j]] [.d (.v (.int .i64 (cmpK (kat zs i) (kat zs j))))]:=by
 rw[←kat_get hi,←kat_get hj];exact cmpF (hz _ (List.getElem_mem _)) (hz _ (List.getElem_mem _))
def cmpV:D:= .v (.func (.func 237) #[] #[])
theorem insF{xs:List (List D)}(hx:∀ c∈xs,tm c){a b:Nat}(hab:a≤b)(hb:b≤xs.length)(hlen:xs.length≤1000000000):FnS Tryz.prog 303 178 4 xs [.d (.v (.int .i64 (a:Int))),.d (.v (.int .i64 (b:Int))),.d cmpV] (fun ys=>Mv xs ys a b∧SrtR ys a b):=by
 refine FnS.of Tryz.func303 rfl (by kernel_rfl) Tryz.ntmps303 Tryz.results303 rfl fun w0 S0 v=>?_;refine wk ?_;refine AC.loop (X:=Nat×List (List D)) (fun x=>⟨[(0,.r 53 0),(1,.d (.v (.int .i64 (a:Int)))),(2,.d (.v (.int .i64 (b:Int)))),(3,.d cmpV),(8,.d (.v (.int .i64 ((x.1:Nat):Int))))],[(53,.row 0 178 4 x.2)]⟩) (fun x=>a+1≤x.1∧Mv xs x.2 a b∧SrtR x.2 a x.1) (fun x=>b-x.1) (a+1,xs) ⟨Nat.le_refl _,.refl _ _ _,fun p q h1 h2 h3=>by dsimp only at *;omega⟩ ⟨rfl,rfl,rfl,rfl,iv (by dsimp only;omega),trivial⟩ ⟨rfl,trivial⟩ ?_;rintro ⟨i,ys⟩ ⟨hi,hmv,hs⟩;dsimp only at hi hmv hs ⊢;refine wk ?_;(first | intro K ms hms hK | intro K hK);refine s1 (fun h1=>?_) (fun h1=>?_)
 ·refine wk ?_;refine AC.loop (X:=Nat×List (List D)) (fun x=>⟨[(0,.r 53 0),(1,.d (.v (.int .i64 (a:Int)))),(2,.d (.v (.int .i64 (b:Int)))),(3,.d cmpV),(8,.d (.v (.int .i64 (i:Int)))),(9,.d (.v (.int .i64 ((x.1:Nat):Int))))],[(53,.row 0 178 4 x.2)]⟩) (fun x=>a≤x.1∧x.1≤i∧Mv xs x.2 a b∧InsI x.2 a i x.1) (fun x=>x.1) (i,ys) ⟨by dsimp only;omega,Nat.le_refl _,hmv,fun p q h1 h2 h3 h4=>hs p q h1 h2 (by dsimp only at *;omega)⟩ ⟨rfl,rfl,rfl,rfl,rfl,rfl,trivial⟩ ⟨rfl,trivial⟩ ?_;rintro ⟨j,zs⟩ ⟨hj,hji,hmz,hin⟩;dsimp only at hj hji hmz hin ⊢;have hz:=hmz.tms hx;have hzl:=hmz.len;refine wk ?_;(first | intro K ms hms hK | intro K hK);refine s1 (fun h2=>?_) (fun h2=>?_)
  ·refine wk ?_;((try (first | intro K ms hms hK | intro K hK));(first | apply Chain.go | apply Chain.goD);exact rfl;exact rfl;exact Loc.loadEw rfl rfl rfl (tms_get hz (i:=j) (by omega)) rfl);refine wk ?_;((try (first | intro K ms hms hK | intro K hK));(first | apply Chain.go | apply Chain.goD);exact rfl;exact rfl;exact Loc.idxR (i:=j-1) rfl rfl rfl rfl (by omega) (by omega) rfl);refine wk ?_;((try (first | intro K ms hms hK | intro K hK));(first | apply Chain.go | apply Chain.goD);exact rfl;exact rfl;exact Loc.loadEw rfl rfl rfl (tms_get hz (i:=j-1) (by omega)) rfl);refine wk ?_;((try (first | intro K ms hms hK | intro K hK));(first | apply Chain.go | apply Chain.goD);exact rfl;exact rfl;refine Loc.callVD (cmpAt hz (i:=j) (j:=j-1) (by omega) (by omega)) rfl rfl ?_;(repeat (first | exact trivial | refine⟨.inl rfl,?_⟩ | refine⟨.inr rfl,?_⟩)));refine wk ?_;refine s1 (fun h3=>?_) (fun h3=>?_)
   ·rw[cmpK_neg]at h3;refine wk ?_;((try (first | intro K ms hms hK | intro K hK));(first | apply Chain.go | apply Chain.goD);exact rfl;exact rfl;exact Loc.idxR (i:=j-1) rfl rfl rfl rfl (by omega) (by omega) rfl);refine wk ?_;((try (first | intro K ms hms hK | intro K hK));(first | apply Chain.go | apply Chain.goD);exact rfl;exact rfl;exact Loc.loadEw rfl rfl rfl (tms_get hz (i:=j-1) (by omega)) rfl);refine wk ?_;((try (first | intro K ms hms hK | intro K hK));(first | apply Chain.go | apply Chain.goD);exact rfl;exact rfl;exact Loc.loadEw rfl rfl rfl (tms_get hz (i:=j) (by omega)) rfl);refine wk ?_;((try (first | intro K ms hms hK | intro K hK));(first | apply Chain.st | apply Chain.stD);exact rfl;exact rfl;exact Do.storeEw rfl rfl rfl ⟨_,tms_get hz (i:=j) (by omega)⟩ rfl ⟨(hz _ (List.getElem_mem _)).2,(hz _ (List.getElem_mem _)).len⟩ rfl rfl rfl;exact rfl;exact rfl);have hy1:∀ c∈zs.set j (zs[j-1]'(by omega)),tm c:=tms_set hz (hz _ (List.getElem_mem _));have hl1:(zs.set j (zs[j-1]'(by omega))).length=zs.length:=by simp
    ((try (first | intro K ms hms hK | intro K hK));(first | apply Chain.go | apply Chain.goD);exact rfl;exact rfl;exact Loc.idxR (i:=j-1) rfl rfl rfl rfl (by omega) (by omega) rfl);refine wk ?_;((try (first | intro K ms hms hK | intro K hK));(first | apply Chain.st | apply Chain.stD);exact rfl;exact rfl;exact Do.storeEw rfl rfl rfl ⟨_,tms_get hy1 (i:=j-1) (by omega)⟩ rfl ⟨(hz _ (List.getElem_mem _)).2,(hz _ (List.getElem_mem _)).len⟩ rfl rfl rfl;exact rfl;exact rfl);refine wk ?_;exact⟨(j-1,_),⟨by dsimp only;omega,by dsimp only;omega,hmz.trans (.swap zs (by omega) (by omega) (by omega) (by omega)),hin.step (by omega) hji (by omega) h3⟩,by dsimp only;omega,⟨rfl,rfl,rfl,rfl,rfl,iv (by dsimp only;omega),trivial⟩,⟨rfl,trivial⟩⟩
   ·rw[cmpK_neg]at h3;refine wk ?_;exact⟨(i+1,zs),⟨by dsimp only;omega,hmz,hin.done (.inr (by omega))⟩,by dsimp only;omega,⟨rfl,rfl,rfl,rfl,rfl,trivial⟩,⟨rfl,trivial⟩⟩
  ·refine wk ?_;exact⟨(i+1,zs),⟨by dsimp only;omega,hmz,hin.done (.inl (by omega))⟩,by dsimp only;omega,⟨rfl,rfl,rfl,rfl,rfl,trivial⟩,⟨rfl,trivial⟩⟩
 ·refine wk ?_;exact⟨ys,⟨hmv,fun p q h2 h3 h4=>hs p q h2 h3 (by omega)⟩,rfl⟩
end Go.Proofs.YtbbpecfapohlaaaGreatDoor
namespace Go.Proofs.YtbbpecfapohlaaaGreatDoor
open Go.RowKit
attribute [local irreducible] AC Do St
theorem SrtR.le{xs:List (List D)}{a b:Nat}(h:SrtR xs a b){p q:Nat}(h1:a≤p)(h2:p≤q)(h3:q<b):kat xs p≤kat xs q:=by
 rcases Nat.lt_or_ge p q with h4 | h4
 ·exact h p q h1 h4 h3
 ·rw[show p=q by omega];exact Int.le_refl _
theorem ins1_done{xs zs:List (List D)}{a b i:Nat}(hB:SrtR xs (a+1) b)(h1:a+1≤i)(h2:i≤b)(l:i=a+1∨kat xs (i-1)<kat xs a)(r:i=b∨kat xs a≤kat xs i)(hz:∀ p,kat zs p=kat xs (if a≤p∧p<i-1 then p+1 else if p=i-1 then a else p)):SrtR zs a b:=by
 intro p q hp hpq hq;rw[hz p,hz q];by_cases c1:p<i-1
 ·rw[if_pos ⟨hp,c1⟩];by_cases c2:q<i-1
  ·rw[if_pos ⟨by omega,c2⟩];exact hB.le (by omega) (by omega) (by omega)
  ·rw[if_neg (by omega)];by_cases c3:q=i-1
   ·rw[if_pos c3];have:=hB.le (p:=p+1) (q:=i-1) (by omega) (by omega) (by omega);omega
   ·rw[if_neg c3];exact hB.le (by omega) (by omega) hq
 ·rw[if_neg (by omega),if_neg (show ¬(a≤q∧q<i-1)by omega),if_neg (show ¬q=i-1 by omega)];by_cases c3:p=i-1
  ·rw[if_pos c3];have:=hB.le (p:=i) (q:=q) (by omega) (by omega) hq;omega
  ·rw[if_neg c3];exact hB.le (by omega) (by omega) hq
theorem ins2_done{xs zs:List (List D)}{a m i:Nat}(hA:SrtR xs a m)(h1:a≤i)(h2:i≤m)(l:i=a∨kat xs (i-1)≤kat xs m)(r:i=m∨kat xs m<kat xs i)(hz:∀ p,kat zs p=kat xs (if i<p∧p≤m then p-1 else if p=i then m else p)):SrtR zs a (m+1):=by
 intro p q hp hpq hq;rw[hz p,hz q];by_cases c1:i<p
 ·rw[if_pos (by omega),if_pos (by omega)];exact hA.le (by omega) (by omega) (by omega)
 ·rw[if_neg (show ¬(i<p∧p≤m)by omega)];by_cases c3:p=i
  ·rw[if_pos c3,if_pos (by omega)];have:=hA.le (p:=i) (q:=q-1) (by omega) (by omega) (by omega);omega
  ·rw[if_neg c3];by_cases c2:i<q
   ·rw[if_pos (by omega)];exact hA.le (by omega) (by omega) (by omega)
   ·rw[if_neg (by omega)];by_cases c4:q=i
    ·rw[if_pos c4];have:=hA.le (p:=p) (q:=i-1) (by omega) (by omega) (by omega);omega
    ·rw[if_neg c4];exact hA.le (by omega) (by omega) (by omega)
theorem rotI_id{s m e:Nat}(h:s=m∨e=m)(h1:s≤m)(h2:m≤e)(p:Nat):rotI s m e p=p:=by
 unfold rotI;split
 ·omega
 ·split<;>omega
theorem rot_facts{xs zs:List (List D)}{a m b s e mid:Nat}(hA:SrtR xs a m)(hB:SrtR xs m b)(hz:∀ p,kat zs p=kat xs (rotI s m e p))(h1:a≤s)(h2:s≤m)(h3:m≤e)(h4:e≤b)(he:e+s=mid+m)(hs:s≤mid)(F1:s=a∨e=b∨kat xs (s-1)≤kat xs e)(F2:s=m∨e=m∨kat xs (e-1)≤kat xs s):
  SrtR zs a s∧SrtR zs s mid∧SrtR zs mid e∧SrtR zs e b∧∀ p q,a≤p→p<mid→mid≤q→q<b→kat zs p≤kat zs q:=by
 have z1:∀ p,p<s→kat zs p=kat xs p:=fun p h=>by rw[hz,rotI,if_neg (by omega),if_neg (by omega)]
 have z2:∀ p,s≤p→p<mid→kat zs p=kat xs (p+(m-s)):=fun p h h'=>by rw[hz,rotI,if_pos (by omega)]
 have z3:∀ p,mid≤p→p<e→kat zs p=kat xs (p-(e-m)):=fun p h h'=>by rw[hz,rotI,if_neg (by omega),if_pos (by omega)]
 have z4:∀ p,e≤p→kat zs p=kat xs p:=fun p h=>by rw[hz,rotI,if_neg (by omega),if_neg (by omega)]
 refine⟨fun p q g1 g2 g3=>?_,fun p q g1 g2 g3=>?_,fun p q g1 g2 g3=>?_,fun p q g1 g2 g3=>?_,fun p q g1 g2 g3 g4=>?_⟩
 ·rw[z1 p (by omega),z1 q (by omega)];exact hA.le g1 (by omega) (by omega)
 ·rw[z2 p g1 (by omega),z2 q (by omega) g3];exact hB.le (by omega) (by omega) (by omega)
 ·rw[z3 p g1 (by omega),z3 q (by omega) g3];exact hA.le (by omega) (by omega) (by omega)
 ·rw[z4 p g1,z4 q (by omega)];exact hB.le (by omega) (by omega) (by omega)
 ·by_cases c1:p<s
  ·rw[z1 p c1];by_cases c2:q<e
   ·rw[z3 q g3 c2];exact hA.le g1 (by omega) (by omega)
   ·rw[z4 q (by omega)];have q1:=hA.le (p:=p) (q:=s-1) g1 (by omega) (by omega);have q2:=hB.le (p:=e) (q:=q) (by omega) (by omega) g4;omega
  ·rw[z2 p (by omega) g2];by_cases c2:q<e
   ·rw[z3 q g3 c2];have q1:=hB.le (p:=p+(m-s)) (q:=e-1) (by omega) (by omega) (by omega);have q2:=hA.le (p:=s) (q:=q-(e-m)) (by omega) (by omega) (by omega);omega
   ·rw[z4 q (by omega)];exact hB.le (by omega) (by omega) g4
theorem halves_done{zs us vs:List (List D)}{a mid b:Nat}(hX:∀ p q,a≤p→p<mid→mid≤q→q<b→kat zs p≤kat zs q)(h1:Mv zs us a mid)(s1:SrtR us a mid)(h2:Mv us vs mid b)(s2:SrtR vs mid b):SrtR vs a b:=by
 intro p q hp hpq hq;by_cases c1:q<mid
 ·rw[kat_eq (h2.out p (by omega)),kat_eq (h2.out q (by omega))];exact s1 p q hp hpq c1
 ·by_cases c2:mid≤p
  ·exact s2 p q c2 hpq hq
  ·rw[kat_eq (h2.out p (by omega))];obtain⟨p',p1,p2,p3⟩:=h1.inn p hp (by omega);obtain⟨q',q1,q2,q3⟩:=h2.inn q (by omega) hq;rw[kat_eq p3,kat_eq q3,kat_eq (h1.out q' (by omega))];exact hX p' q' p1 p2 q1 q2
theorem SrtR.mv{xs ys:List (List D)}{a b c d:Nat}(h:SrtR xs c d)(hm:Mv xs ys a b)(ho:d≤a∨b≤c):SrtR ys c d:=fun p q h1 h2 h3=>by
 rw[kat_eq (hm.out p (by omega)),kat_eq (hm.out q (by omega))];exact h p q h1 h2 h3
theorem SrtR.one(xs:List (List D)){a b:Nat}(h:b≤a+1):SrtR xs a b:=fun p q h1 h2 h3=>by omega
theorem ins1_step{xs zs:List (List D)}{a k:Nat}(hk:a≤k)(hl:k+1<zs.length)(h:∀ p,kat zs p=kat xs (if a≤p∧p<k then p+1 else if p=k then a else p))(p:Nat):
  kat ((zs.set k (zs[k+1]'hl)).set (k+1) (zs[k]'(by omega))) p=kat xs (if a≤p∧p<k+1 then p+1 else if p=k+1 then a else p):=by
 rw[kat_swap];have e1:=h k;rw[if_neg (by omega),if_pos rfl]at e1;have e2:=h (k+1);rw[if_neg (by omega),if_neg (by omega)]at e2;by_cases c1:p=k+1
 ·rw[if_pos c1,e1,if_neg (by omega),if_pos c1]
 ·by_cases c2:p=k
  ·rw[if_neg c1,if_pos c2,e2,if_pos (by omega),c2]
  ·rw[if_neg c1,if_neg c2,h p];by_cases c3:a≤p∧p<k
   ·rw[if_pos c3,if_pos (by omega)]
   ·rw[if_neg c3,if_neg c2,if_neg (by omega),if_neg c1]
theorem ins2_step{xs zs:List (List D)}{m k:Nat}(hk:0<k)(hm:k≤m)(hl:k<zs.length)(h:∀ p,kat zs p=kat xs (if k<p∧p≤m then p-1 else if p=k then m else p))(p:Nat):
  kat ((zs.set k (zs[k-1]'(by omega))).set (k-1) (zs[k]'hl)) p=kat xs (if k-1<p∧p≤m then p-1 else if p=k-1 then m else p):=by
 rw[kat_swap];have e1:=h k;rw[if_neg (by omega),if_pos rfl]at e1;have e2:=h (k-1);rw[if_neg (by omega),if_neg (by omega)]at e2;by_cases c1:p=k-1
 ·rw[if_pos c1,e1,if_neg (by omega),if_pos c1]
 ·by_cases c2:p=k
  ·rw[if_neg c1,if_pos c2,e2,if_pos (by omega),c2]
  ·rw[if_neg c1,if_neg c2,h p];by_cases c3:k<p∧p≤m
   ·rw[if_pos c3,if_pos (by omega)]
   ·rw[if_neg c3,if_neg c2,if_neg (by omega),if_neg c1]
theorem half_wrap{x:Int}(h:0≤x)(h2:x<9223372036854775808):IntKind.wrap .i64 (x / 2)=x / 2:=IntWalk.i64_in _ (by omega)
theorem rotF'{xs:List (List D)}(hx:∀ c∈xs,tm c){a m b:Nat}{A M B:Int}(hA:A=(a:Int))(hM:M=(m:Int))(hB:B=(b:Int))(ham:a<m)(hmb:m<b)(hb:b≤xs.length)(hlen:xs.length≤1000000000)(f:D):FnS Tryz.prog 317 178 4 xs [.d (.v (.int .i64 A)),.d (.v (.int .i64 M)),.d (.v (.int .i64 B)),.d f] (fun ys=>rotAt xs ys a m b∧Mv xs ys a b):=by
 subst hA hM hB;exact rotF hx ham hmb hb hlen f
abbrev SymC(xs:List (List D))(a m b:Nat):Prop:=FnS Tryz.prog 304 178 4 xs [.d (.v (.int .i64 (a:Int))),.d (.v (.int .i64 (m:Int))),.d (.v (.int .i64 (b:Int))),.d cmpV] (fun ys=>Mv xs ys a b∧SrtR ys a b)
theorem SymC.cast{xs:List (List D)}{a m b:Nat}(h:SymC xs a m b){A M B:Int}(hA:A=(a:Int))(hM:M=(m:Int))(hB:B=(b:Int)):FnS Tryz.prog 304 178 4 xs [.d (.v (.int .i64 A)),.d (.v (.int .i64 M)),.d (.v (.int .i64 B)),.d cmpV] (fun ys=>Mv xs ys a b∧SrtR ys a b):=by
 subst hA hM hB;exact h
theorem symStep{xs:List (List D)}(hx:∀ c∈xs,tm c){a m b:Nat}(ham:a<m)(hmb:m<b)(hb:b≤xs.length)(hlen:xs.length≤1000000000)(hA:SrtR xs a m)(hB:SrtR xs m b)
  (ih:∀ (ys:List (List D)) (a' m' b':Nat),(∀c∈ys,tm c)→b'-a'<b-a→a'<m'→m'<b'→b'≤ys.length→ys.length≤1000000000→SrtR ys a' m'→SrtR ys m' b'→SymC ys a' m' b'):SymC xs a m b:=by
 refine FnS.of Tryz.func304 rfl (by kernel_rfl) Tryz.ntmps304 Tryz.results304 rfl fun w0 S0 v=>?_;refine wk ?_;(first | intro K ms hms hK | intro K hK);refine s1 (fun h1=>?_) (fun h1=>?_)
 ·have hm:m=a+1:=by omega
  subst hm;refine wk ?_;refine AC.loop (X:=Nat×Nat) (fun x=>⟨[(0,.r 220 0),(1,.d (.v (.int .i64 (a:Int)))),(2,.d (.v (.int .i64 ((a+1:Nat):Int)))),(3,.d (.v (.int .i64 (b:Int)))),(4,.d cmpV),(10,.d (.v (.int .i64 ((x.1:Nat):Int)))),(11,.d (.v (.int .i64 ((x.2:Nat):Int))))],[(220,.row 0 178 4 xs)]⟩) (fun x=>a+1≤x.1∧x.1≤x.2∧x.2≤b∧(x.1=a+1∨kat xs (x.1-1)<kat xs a)∧(x.2=b∨kat xs a≤kat xs x.2)) (fun x=>x.2-x.1) (a+1,b) ⟨Nat.le_refl _,by dsimp only;omega,Nat.le_refl _,.inl rfl,.inl rfl⟩ ⟨rfl,rfl,rfl,rfl,rfl,rfl,rfl,trivial⟩ ⟨rfl,trivial⟩ ?_;rintro ⟨i,j⟩ ⟨hi,hij,hjb,hl,hr⟩;dsimp only at hi hij hjb hl hr ⊢;refine wk ?_;(first | intro K ms hms hK | intro K hK);refine s1 (fun h2=>?_) (fun h2=>?_)
  ·refine wk ?_;((try (first | intro K ms hms hK | intro K hK));(first | apply Chain.go | apply Chain.goD);exact rfl;exact rfl;exact Loc.conv rfl rfl (wrap_u64 (by omega) (by omega)));((try (first | intro K ms hms hK | intro K hK));(first | apply Chain.go | apply Chain.goD);exact rfl;exact rfl;exact Loc.shr1 rfl rfl rfl);((try (first | intro K ms hms hK | intro K hK));(first | apply Chain.go | apply Chain.goD);exact rfl;exact rfl;exact Loc.conv rfl rfl (half_wrap (by omega) (by omega)));refine wk ?_;((try (first | intro K ms hms hK | intro K hK));(first | apply Chain.go | apply Chain.goD);exact rfl;exact rfl;exact Loc.idxR (i:=(i+j) / 2) rfl rfl rfl rfl (by omega) (by omega) rfl);refine wk ?_;((try (first | intro K ms hms hK | intro K hK));(first | apply Chain.go | apply Chain.goD);exact rfl;exact rfl;exact Loc.loadEw rfl rfl rfl (tms_get hx (i:=(i+j) / 2) (by omega)) rfl);refine wk ?_;((try (first | intro K ms hms hK | intro K hK));(first | apply Chain.go | apply Chain.goD);exact rfl;exact rfl;exact Loc.loadEw rfl rfl rfl (tms_get hx (i:=a) (by omega)) rfl);((try (first | intro K ms hms hK | intro K hK));(first | apply Chain.go | apply Chain.goD);exact rfl;exact rfl;refine Loc.callVD (cmpAt hx (i:=(i+j) / 2) (j:=a) (by omega) (by omega)) rfl rfl ?_;(repeat (first | exact trivial | refine⟨.inl rfl,?_⟩ | refine⟨.inr rfl,?_⟩)));refine s1 (fun h3=>?_) (fun h3=>?_)
   ·rw[cmpK_neg]at h3;refine wk ?_;exact⟨((i+j) / 2+1,j),⟨by dsimp only;omega,by dsimp only;omega,hjb,.inr h3,hr⟩,by dsimp only;omega,⟨rfl,rfl,rfl,rfl,rfl,iv (by dsimp only;omega),rfl,trivial⟩,⟨rfl,trivial⟩⟩
   ·rw[cmpK_neg]at h3;refine wk ?_;exact⟨(i,(i+j) / 2),⟨hi,by dsimp only;omega,by dsimp only;omega,hl,.inr (by dsimp only;omega)⟩,by dsimp only;omega,⟨rfl,rfl,rfl,rfl,rfl,rfl,iv (by dsimp only;omega),trivial⟩,⟨rfl,trivial⟩⟩
  ·have:i=j:=by omega
   subst this;refine wk ?_;refine AC.loop (X:=Nat×List (List D)) (fun x=>⟨[(0,.r 220 0),(10,.d (.v (.int .i64 (i:Int)))),(13,.d (.v (.int .i64 ((x.1:Nat):Int))))],[(220,.row 0 178 4 x.2)]⟩) (fun x=>a≤x.1∧x.1≤i-1∧Mv xs x.2 a b∧∀ p,kat x.2 p=kat xs (if a≤p∧p<x.1 then p+1 else if p=x.1 then a else p)) (fun x=>i-x.1) (a,xs) ⟨Nat.le_refl _,by dsimp only;omega,.refl _ _ _,fun p=>by dsimp only;rw[if_neg (by omega)];split<;>simp_all⟩ ⟨rfl,rfl,rfl,trivial⟩ ⟨rfl,trivial⟩ ?_;rintro ⟨k,zs⟩ ⟨hk,hki,hmz,hkz⟩;dsimp only at hk hki hmz hkz ⊢;have hz:=hmz.tms hx;have hzl:=hmz.len;refine wk ?_;(first | intro K ms hms hK | intro K hK);refine s1 (fun h2=>?_) (fun h2=>?_)
   ·refine wk ?_;((try (first | intro K ms hms hK | intro K hK));(first | apply Chain.go | apply Chain.goD);exact rfl;exact rfl;exact Loc.idxR (i:=k+1) rfl rfl rfl rfl (by omega) (by omega) rfl);refine wk ?_;((try (first | intro K ms hms hK | intro K hK));(first | apply Chain.go | apply Chain.goD);exact rfl;exact rfl;exact Loc.loadEw rfl rfl rfl (tms_get hz (i:=k+1) (by omega)) rfl);refine wk ?_;((try (first | intro K ms hms hK | intro K hK));(first | apply Chain.go | apply Chain.goD);exact rfl;exact rfl;exact Loc.loadEw rfl rfl rfl (tms_get hz (i:=k) (by omega)) rfl);refine wk ?_;((try (first | intro K ms hms hK | intro K hK));(first | apply Chain.st | apply Chain.stD);exact rfl;exact rfl;exact Do.storeEw rfl rfl rfl ⟨_,tms_get hz (i:=k) (by omega)⟩ rfl ⟨(hz _ (List.getElem_mem _)).2,(hz _ (List.getElem_mem _)).len⟩ rfl rfl rfl;exact rfl;exact rfl);have hy1:∀ c∈zs.set k (zs[k+1]'(by omega)),tm c:=tms_set hz (hz _ (List.getElem_mem _));have hl1:(zs.set k (zs[k+1]'(by omega))).length=zs.length:=by simp
    ((try (first | intro K ms hms hK | intro K hK));(first | apply Chain.go | apply Chain.goD);exact rfl;exact rfl;exact Loc.idxR (i:=k+1) rfl rfl rfl rfl (by omega) (by omega) rfl);refine wk ?_;((try (first | intro K ms hms hK | intro K hK));(first | apply Chain.st | apply Chain.stD);exact rfl;exact rfl;exact Do.storeEw rfl rfl rfl ⟨_,tms_get hy1 (i:=k+1) (by omega)⟩ rfl ⟨(hz _ (List.getElem_mem _)).2,(hz _ (List.getElem_mem _)).len⟩ rfl rfl rfl;exact rfl;exact rfl);refine wk ?_;exact⟨(k+1,_),⟨by dsimp only;omega,by dsimp only;omega,hmz.trans (.swap zs (by omega) (by omega) (by omega) (by omega)),ins1_step hk (by omega) hkz⟩,by dsimp only;omega,⟨rfl,rfl,rfl,trivial⟩,⟨rfl,trivial⟩⟩
   ·refine wk ?_;have hk':k=i-1:=by omega
    subst hk';exact⟨zs,⟨hmz,ins1_done hB hi hjb hl hr hkz⟩,rfl⟩
 ·refine wk ?_;(first | intro K ms hms hK | intro K hK);refine s1 (fun h2=>?_) (fun h2=>?_)
  ·have hm:b=m+1:=by omega
   subst hm;refine wk ?_;refine AC.loop (X:=Nat×Nat) (fun x=>⟨[(0,.r 220 0),(1,.d (.v (.int .i64 (a:Int)))),(2,.d (.v (.int .i64 (m:Int)))),(3,.d (.v (.int .i64 ((m+1:Nat):Int)))),(4,.d cmpV),(14,.d (.v (.int .i64 ((x.1:Nat):Int)))),(15,.d (.v (.int .i64 ((x.2:Nat):Int))))],[(220,.row 0 178 4 xs)]⟩) (fun x=>a≤x.1∧x.1≤x.2∧x.2≤m∧(x.1=a∨kat xs (x.1-1)≤kat xs m)∧(x.2=m∨kat xs m<kat xs x.2)) (fun x=>x.2-x.1) (a,m) ⟨Nat.le_refl _,by dsimp only;omega,Nat.le_refl _,.inl rfl,.inl rfl⟩ ⟨rfl,rfl,rfl,rfl,rfl,rfl,rfl,trivial⟩ ⟨rfl,trivial⟩ ?_;rintro ⟨i,j⟩ ⟨hi,hij,hjb,hl,hr⟩;dsimp only at hi hij hjb hl hr ⊢;refine wk ?_;(first | intro K ms hms hK | intro K hK);refine s1 (fun h3=>?_) (fun h3=>?_)
   ·refine wk ?_;((try (first | intro K ms hms hK | intro K hK));(first | apply Chain.go | apply Chain.goD);exact rfl;exact rfl;exact Loc.conv rfl rfl (wrap_u64 (by omega) (by omega)));((try (first | intro K ms hms hK | intro K hK));(first | apply Chain.go | apply Chain.goD);exact rfl;exact rfl;exact Loc.shr1 rfl rfl rfl);((try (first | intro K ms hms hK | intro K hK));(first | apply Chain.go | apply Chain.goD);exact rfl;exact rfl;exact Loc.conv rfl rfl (half_wrap (by omega) (by omega)));refine wk ?_;((try (first | intro K ms hms hK | intro K hK));(first | apply Chain.go | apply Chain.goD);exact rfl;exact rfl;exact Loc.loadEw rfl rfl rfl (tms_get hx (i:=m) (by omega)) rfl);refine wk ?_;((try (first | intro K ms hms hK | intro K hK));(first | apply Chain.go | apply Chain.goD);exact rfl;exact rfl;exact Loc.idxR (i:=(i+j) / 2) rfl rfl rfl rfl (by omega) (by omega) rfl);refine wk ?_;((try (first | intro K ms hms hK | intro K hK));(first | apply Chain.go | apply Chain.goD);exact rfl;exact rfl;exact Loc.loadEw rfl rfl rfl (tms_get hx (i:=(i+j) / 2) (by omega)) rfl);((try (first | intro K ms hms hK | intro K hK));(first | apply Chain.go | apply Chain.goD);exact rfl;exact rfl;refine Loc.callVD (cmpAt hx (i:=m) (j:=(i+j) / 2) (by omega) (by omega)) rfl rfl ?_;(repeat (first | exact trivial | refine⟨.inl rfl,?_⟩ | refine⟨.inr rfl,?_⟩)));refine s1 (fun h4=>?_) (fun h4=>?_)
    ·rw[cmpK_neg]at h4;refine wk ?_;exact⟨(i,(i+j) / 2),⟨hi,by dsimp only;omega,by dsimp only;omega,hl,.inr h4⟩,by dsimp only;omega,⟨rfl,rfl,rfl,rfl,rfl,rfl,iv (by dsimp only;omega),trivial⟩,⟨rfl,trivial⟩⟩
    ·rw[cmpK_neg]at h4;refine wk ?_;exact⟨((i+j) / 2+1,j),⟨by dsimp only;omega,by dsimp only;omega,hjb,.inr (by dsimp only;rw[Nat.add_sub_cancel];omega),hr⟩,by dsimp only;omega,⟨rfl,rfl,rfl,rfl,rfl,iv (by dsimp only;omega),rfl,trivial⟩,⟨rfl,trivial⟩⟩
   ·have:i=j:=by omega
    subst this;refine wk ?_;refine AC.loop (X:=Nat×List (List D)) (fun x=>⟨[(0,.r 220 0),(14,.d (.v (.int .i64 (i:Int)))),(17,.d (.v (.int .i64 ((x.1:Nat):Int))))],[(220,.row 0 178 4 x.2)]⟩) (fun x=>i≤x.1∧x.1≤m∧Mv xs x.2 a (m+1)∧∀ p,kat x.2 p=kat xs (if x.1<p∧p≤m then p-1 else if p=x.1 then m else p)) (fun x=>x.1) (m,xs) ⟨hjb,Nat.le_refl _,.refl _ _ _,fun p=>by dsimp only;rw[if_neg (by omega)];split<;>simp_all⟩ ⟨rfl,rfl,rfl,trivial⟩ ⟨rfl,trivial⟩ ?_;rintro ⟨k,zs⟩ ⟨hk,hki,hmz,hkz⟩;dsimp only at hk hki hmz hkz ⊢;have hz:=hmz.tms hx;have hzl:=hmz.len;refine wk ?_;(first | intro K ms hms hK | intro K hK);refine s1 (fun h3=>?_) (fun h3=>?_)
    ·refine wk ?_;((try (first | intro K ms hms hK | intro K hK));(first | apply Chain.go | apply Chain.goD);exact rfl;exact rfl;exact Loc.idxR (i:=k-1) rfl rfl rfl rfl (by omega) (by omega) rfl);refine wk ?_;((try (first | intro K ms hms hK | intro K hK));(first | apply Chain.go | apply Chain.goD);exact rfl;exact rfl;exact Loc.loadEw rfl rfl rfl (tms_get hz (i:=k-1) (by omega)) rfl);refine wk ?_;((try (first | intro K ms hms hK | intro K hK));(first | apply Chain.go | apply Chain.goD);exact rfl;exact rfl;exact Loc.loadEw rfl rfl rfl (tms_get hz (i:=k) (by omega)) rfl);refine wk ?_;((try (first | intro K ms hms hK | intro K hK));(first | apply Chain.st | apply Chain.stD);exact rfl;exact rfl;exact Do.storeEw rfl rfl rfl ⟨_,tms_get hz (i:=k) (by omega)⟩ rfl ⟨(hz _ (List.getElem_mem _)).2,(hz _ (List.getElem_mem _)).len⟩ rfl rfl rfl;exact rfl;exact rfl);have hy1:∀ c∈zs.set k (zs[k-1]'(by omega)),tm c:=tms_set hz (hz _ (List.getElem_mem _));have hl1:(zs.set k (zs[k-1]'(by omega))).length=zs.length:=by simp
     ((try (first | intro K ms hms hK | intro K hK));(first | apply Chain.go | apply Chain.goD);exact rfl;exact rfl;exact Loc.idxR (i:=k-1) rfl rfl rfl rfl (by omega) (by omega) rfl);refine wk ?_;((try (first | intro K ms hms hK | intro K hK));(first | apply Chain.st | apply Chain.stD);exact rfl;exact rfl;exact Do.storeEw rfl rfl rfl ⟨_,tms_get hy1 (i:=k-1) (by omega)⟩ rfl ⟨(hz _ (List.getElem_mem _)).2,(hz _ (List.getElem_mem _)).len⟩ rfl rfl rfl;exact rfl;exact rfl);refine wk ?_;exact⟨(k-1,_),⟨by dsimp only;omega,by dsimp only;omega,hmz.trans (.swap zs (by omega) (by omega) (by omega) (by omega)),ins2_step (by omega) hki (by omega) hkz⟩,by dsimp only;omega,⟨rfl,rfl,iv (by dsimp only;omega),trivial⟩,⟨rfl,trivial⟩⟩
    ·refine wk ?_;have hk':k=i:=by omega
     subst hk';exact⟨zs,⟨hmz,ins2_done hA hi hki hl hr hkz⟩,rfl⟩
  ·refine wk ?_;((try (first | intro K ms hms hK | intro K hK));(first | apply Chain.go | apply Chain.goD);exact rfl;exact rfl;exact Loc.conv rfl rfl (wrap_u64 (by omega) (by omega)));((try (first | intro K ms hms hK | intro K hK));(first | apply Chain.go | apply Chain.goD);exact rfl;exact rfl;exact Loc.shr1 rfl rfl rfl);((try (first | intro K ms hms hK | intro K hK));(first | apply Chain.go | apply Chain.goD);exact rfl;exact rfl;exact Loc.conv rfl rfl (half_wrap (by omega) (by omega)));refine wk ?_;obtain⟨mid,hmid⟩:∃ mid,mid=(a+b) / 2:=⟨_,rfl⟩
   obtain⟨s0,r0,hs0⟩:∃ s0 r0:Nat,(mid<m∧s0+b=mid+m∧r0=mid)∨(m≤mid∧s0=a∧r0=m):=by
    by_cases h:mid<m
    ·exact⟨mid+m-b,mid,.inl ⟨h,by omega,rfl⟩⟩
    ·exact⟨a,m,.inr ⟨by omega,rfl,rfl⟩⟩
   (first | intro K ms hms hK | intro K hK);refine s1 (fun h3=>?_) (fun h3=>?_)
   all_goals refine wk ?_
   all_goals refine AC.loop (X:=Nat×Nat) (fun x=>⟨[(0,.r 220 0),(1,.d (.v (.int .i64 (a:Int)))),(2,.d (.v (.int .i64 (m:Int)))),(3,.d (.v (.int .i64 (b:Int)))),(4,.d cmpV),(18,.d (.v (.int .i64 (mid:Int)))),(19,.d (.v (.int .i64 ((mid+m:Nat):Int)))),(22,.d (.v (.int .i64 ((mid+m-1:Nat):Int)))),(20,.d (.v (.int .i64 ((x.1:Nat):Int)))),(21,.d (.v (.int .i64 ((x.2:Nat):Int))))],[(220,.row 0 178 4 xs)]⟩) (fun x=>s0≤x.1∧x.1≤x.2∧x.2≤r0∧(x.1=s0∨kat xs (x.1-1)≤kat xs (mid+m-x.1))∧(x.2=r0∨kat xs (mid+m-1-x.2)≤kat xs x.2)) (fun x=>x.2-x.1) (s0,r0) ⟨Nat.le_refl _,by dsimp only;omega,Nat.le_refl _,.inl rfl,.inl rfl⟩ ⟨rfl,rfl,rfl,rfl,rfl,iv (by omega),iv (by omega),iv (by omega),iv (by dsimp only;omega),iv (by dsimp only;omega),trivial⟩ ⟨rfl,trivial⟩ ?_
   all_goals rintro ⟨s,r⟩ ⟨hs,hsr,hr0,hl,hr⟩
   all_goals dsimp only at hs hsr hr0 hl hr ⊢
   all_goals refine wk ?_
   all_goals (first | intro K ms hms hK | intro K hK)
   all_goals refine s1 (fun h4=>?_) (fun h4=>?_)
   ·refine wk ?_;((try (first | intro K ms hms hK | intro K hK));(first | apply Chain.go | apply Chain.goD);exact rfl;exact rfl;exact Loc.conv rfl rfl (wrap_u64 (by omega) (by omega)));((try (first | intro K ms hms hK | intro K hK));(first | apply Chain.go | apply Chain.goD);exact rfl;exact rfl;exact Loc.shr1 rfl rfl rfl);((try (first | intro K ms hms hK | intro K hK));(first | apply Chain.go | apply Chain.goD);exact rfl;exact rfl;exact Loc.conv rfl rfl (half_wrap (by omega) (by omega)));refine wk ?_;((try (first | intro K ms hms hK | intro K hK));(first | apply Chain.go | apply Chain.goD);exact rfl;exact rfl;exact Loc.idxR (i:=mid+m-1-(s+r) / 2) rfl rfl rfl rfl (by omega) (by omega) rfl);refine wk ?_;((try (first | intro K ms hms hK | intro K hK));(first | apply Chain.go | apply Chain.goD);exact rfl;exact rfl;exact Loc.loadEw rfl rfl rfl (tms_get hx (i:=mid+m-1-(s+r) / 2) (by omega)) rfl);refine wk ?_;((try (first | intro K ms hms hK | intro K hK));(first | apply Chain.go | apply Chain.goD);exact rfl;exact rfl;exact Loc.idxR (i:=(s+r) / 2) rfl rfl rfl rfl (by omega) (by omega) rfl);refine wk ?_;((try (first | intro K ms hms hK | intro K hK));(first | apply Chain.go | apply Chain.goD);exact rfl;exact rfl;exact Loc.loadEw rfl rfl rfl (tms_get hx (i:=(s+r) / 2) (by omega)) rfl)
    ((try (first | intro K ms hms hK | intro K hK));(first | apply Chain.go | apply Chain.goD);exact rfl;exact rfl;refine Loc.callVD (cmpAt hx (i:=mid+m-1-(s+r) / 2) (j:=(s+r) / 2) (by omega) (by omega)) rfl rfl ?_;(repeat (first | exact trivial | refine⟨.inl rfl,?_⟩ | refine⟨.inr rfl,?_⟩)));refine s1 (fun h5=>?_) (fun h5=>?_)
    ·rw[cmpK_neg]at h5;refine wk ?_;exact⟨(s,(s+r) / 2),⟨hs,by dsimp only;omega,by dsimp only;omega,hl,.inr (by dsimp only;omega)⟩,by dsimp only;omega,⟨rfl,rfl,rfl,rfl,rfl,rfl,rfl,rfl,rfl,iv (by dsimp only;omega),trivial⟩,⟨rfl,trivial⟩⟩
    ·rw[cmpK_neg]at h5;refine wk ?_;exact⟨((s+r) / 2+1,r),⟨by dsimp only;omega,by dsimp only;omega,hr0,.inr (by dsimp only;rw[Nat.add_sub_cancel,show mid+m-((s+r) / 2+1)=mid+m-1-(s+r) / 2 by omega];omega),hr⟩,by dsimp only;omega,⟨rfl,rfl,rfl,rfl,rfl,rfl,rfl,rfl,iv (by dsimp only;omega),rfl,trivial⟩,⟨rfl,trivial⟩⟩
   ·have:s=r:=by omega
    subst this
    (repeat (first
      | refine Chain.no rfl rfl ?_
      | refine Chain.noD rfl rfl ?_
      | ((first | apply Chain.go | apply Chain.goD);exact rfl;exact rfl;first
        | exact Loc.move (v:= .d _) rfl rfl
        | exact Loc.assign (v:= .d _) rfl rfl
        | exact Loc.loadP1 rfl rfl rfl rfl
        | exact Loc.loadQ1 rfl rfl rfl
        | exact Loc.fieldP rfl rfl rfl
        | exact Loc.fieldQ rfl rfl
        | exact Loc.pickT (v:= .d _) rfl rfl rfl
        | exact Loc.pickF (v:= .d _) rfl rfl rfl
        | exact Loc.loadPn rfl rfl rfl rfl (by kernel_rfl)
        | exact Loc.loadQw rfl rfl rfl
        | exact Loc.loadQn rfl rfl rfl rfl
        | exact Loc.idxM rfl rfl rfl rfl (by assumption) rfl
        | exact Loc.lenM rfl rfl
        | exact Loc.lenN rfl rfl
        | exact Loc.lenR rfl rfl rfl
        | exact Loc.len rfl rfl
        | exact Loc.lssT rfl rfl rfl (by omega)
        | exact Loc.lssF rfl rfl rfl (by omega)
        | exact Loc.eqlT rfl rfl rfl (by omega)
        | exact Loc.eqlF rfl rfl rfl (by omega)
        | exact Loc.neqT rfl rfl rfl (by omega)
        | exact Loc.neqF rfl rfl rfl (by omega)
        | exact Loc.gtrT rfl rfl rfl (by omega)
        | exact Loc.gtrF rfl rfl rfl (by omega)
        | exact Loc.geqT rfl rfl rfl (by omega)
        | exact Loc.geqF rfl rfl rfl (by omega)
        | exact Loc.leqT rfl rfl rfl (by omega)
        | exact Loc.leqF rfl rfl rfl (by omega)
        | exact Loc.add rfl rfl rfl (IntWalk.i64_in _ (by omega))
        | exact Loc.sub rfl rfl rfl (IntWalk.i64_in _ (by omega))
        | exact Loc.notT rfl rfl
        | exact Loc.notF rfl rfl
        | exact Loc.fieldE rfl rfl rfl
        | exact Loc.loadE1 rfl rfl rfl (by assumption) rfl
        | exact Loc.idxR rfl rfl rfl rfl rfl (by omega) rfl
        | exact Loc.move (v:= .g _) rfl rfl
        | exact Loc.move (v:= .p _ _) rfl rfl
        | exact Loc.move (v:= .r _ _) rfl rfl
        | exact Loc.move (v:= .t _) rfl rfl
        | exact Loc.assign (v:= .g _) rfl rfl
        | exact Loc.assign (v:= .r _ _) rfl rfl
        | exact Loc.assign (v:= .p _ _) rfl rfl
        | exact Loc.extract (v:= .d _) rfl rfl rfl rfl
        | exact Loc.extract (v:= .g _) rfl rfl rfl rfl
        | exact Loc.pickT (v:= .g _) rfl rfl rfl
        | exact Loc.pickF (v:= .g _) rfl rfl rfl
        | exact Loc.move (v:= .un) rfl rfl
        | exact Loc.build rfl rfl rfl rfl
        | exact Loc.litP rfl rfl rfl rfl rfl rfl rfl)
      | refine Chain.nil0 (hK _ ?_)
      | ((first | apply Chain.st | apply Chain.stD);exact rfl;exact rfl;(first
        | exact Do.storeP rfl rfl rfl rfl .g rfl rfl rfl
        | exact Do.storeP rfl rfl rfl rfl .d rfl rfl rfl
        | exact Do.storeP rfl rfl rfl rfl (.r rfl) rfl rfl rfl);exact rfl;exact rfl)
      | ((first | apply Chain.ef | apply Chain.efD);exact rfl;exact rfl;(first
        | exact Do.alloc rfl rfl rfl
        | exact Do.box rfl rfl rfl .g rfl
        | exact Do.box rfl rfl rfl .d rfl
        | exact Do.lit0 rfl rfl
        | exact Do.append1 rfl rfl rfl rfl rfl rfl (by first | omega | (simp;omega))
        | exact Do.appendN1 rfl rfl rfl rfl rfl rfl);exact rfl;exact rfl)
      | refine Chain.nilD (by rw[hms];kernel_rfl) (hK _ ?_)
      | refine Chain.noN rfl rfl ?_))
    refine AC.condF rfl ?_;refine AC.exit ?_;refine AC.seq ?_;refine AC.reg (by decide+kernel) ?_;(first | intro K ms hms hK | intro K hK)
    (repeat (first
      | refine Chain.no rfl rfl ?_
      | refine Chain.noD rfl rfl ?_
      | ((first | apply Chain.go | apply Chain.goD);exact rfl;exact rfl;first
        | exact Loc.move (v:= .d _) rfl rfl
        | exact Loc.assign (v:= .d _) rfl rfl
        | exact Loc.loadP1 rfl rfl rfl rfl
        | exact Loc.loadQ1 rfl rfl rfl
        | exact Loc.fieldP rfl rfl rfl
        | exact Loc.fieldQ rfl rfl
        | exact Loc.pickT (v:= .d _) rfl rfl rfl
        | exact Loc.pickF (v:= .d _) rfl rfl rfl
        | exact Loc.loadPn rfl rfl rfl rfl (by kernel_rfl)
        | exact Loc.loadQw rfl rfl rfl
        | exact Loc.loadQn rfl rfl rfl rfl
        | exact Loc.idxM rfl rfl rfl rfl (by assumption) rfl
        | exact Loc.lenM rfl rfl
        | exact Loc.lenN rfl rfl
        | exact Loc.lenR rfl rfl rfl
        | exact Loc.len rfl rfl
        | exact Loc.lssT rfl rfl rfl (by omega)
        | exact Loc.lssF rfl rfl rfl (by omega)
        | exact Loc.eqlT rfl rfl rfl (by omega)
        | exact Loc.eqlF rfl rfl rfl (by omega)
        | exact Loc.neqT rfl rfl rfl (by omega)
        | exact Loc.neqF rfl rfl rfl (by omega)
        | exact Loc.gtrT rfl rfl rfl (by omega)
        | exact Loc.gtrF rfl rfl rfl (by omega)
        | exact Loc.geqT rfl rfl rfl (by omega)
        | exact Loc.geqF rfl rfl rfl (by omega)
        | exact Loc.leqT rfl rfl rfl (by omega)
        | exact Loc.leqF rfl rfl rfl (by omega)
        | exact Loc.add rfl rfl rfl (IntWalk.i64_in _ (by omega))
        | exact Loc.sub rfl rfl rfl (IntWalk.i64_in _ (by omega))
        | exact Loc.notT rfl rfl
        | exact Loc.notF rfl rfl
        | exact Loc.fieldE rfl rfl rfl
        | exact Loc.loadE1 rfl rfl rfl (by assumption) rfl
        | exact Loc.idxR rfl rfl rfl rfl rfl (by omega) rfl
        | exact Loc.move (v:= .g _) rfl rfl
        | exact Loc.move (v:= .p _ _) rfl rfl
        | exact Loc.move (v:= .r _ _) rfl rfl
        | exact Loc.move (v:= .t _) rfl rfl
        | exact Loc.assign (v:= .g _) rfl rfl
        | exact Loc.assign (v:= .r _ _) rfl rfl
        | exact Loc.assign (v:= .p _ _) rfl rfl
        | exact Loc.extract (v:= .d _) rfl rfl rfl rfl
        | exact Loc.extract (v:= .g _) rfl rfl rfl rfl
        | exact Loc.pickT (v:= .g _) rfl rfl rfl
        | exact Loc.pickF (v:= .g _) rfl rfl rfl
        | exact Loc.move (v:= .un) rfl rfl
        | exact Loc.build rfl rfl rfl rfl
        | exact Loc.litP rfl rfl rfl rfl rfl rfl rfl)
      | refine Chain.nil0 (hK _ ?_)
      | ((first | apply Chain.st | apply Chain.stD);exact rfl;exact rfl;(first
        | exact Do.storeP rfl rfl rfl rfl .g rfl rfl rfl
        | exact Do.storeP rfl rfl rfl rfl .d rfl rfl rfl
        | exact Do.storeP rfl rfl rfl rfl (.r rfl) rfl rfl rfl);exact rfl;exact rfl)
      | ((first | apply Chain.ef | apply Chain.efD);exact rfl;exact rfl;(first
        | exact Do.alloc rfl rfl rfl
        | exact Do.box rfl rfl rfl .g rfl
        | exact Do.box rfl rfl rfl .d rfl
        | exact Do.lit0 rfl rfl
        | exact Do.append1 rfl rfl rfl rfl rfl rfl (by first | omega | (simp;omega))
        | exact Do.appendN1 rfl rfl rfl rfl rfl rfl);exact rfl;exact rfl)
      | refine Chain.nilD (by rw[hms];kernel_rfl) (hK _ ?_)
      | refine Chain.noN rfl rfl ?_))
    have hse:s≤mid:=by omega
    refine AC.seq ?_;refine AC.join (X:=List (List D)) (fun zs=>⟨[(0,.r 220 0),(1,.d (.v (.int .i64 (a:Int)))),(3,.d (.v (.int .i64 (b:Int)))),(4,.d cmpV),(18,.d (.v (.int .i64 (mid:Int)))),(20,.d (.v (.int .i64 (s:Int)))),(24,.d (.v (.int .i64 ((mid+m-s:Nat):Int))))],[(220,.row 0 178 4 zs)]⟩) (fun zs=>rotAt xs zs s m (mid+m-s)∧Mv xs zs a b) ?_ ?_
    ·by_cases c1:s<m
     ·by_cases c2:m<mid+m-s
      ·refine wk ?_;((try (first | intro K ms hms hK | intro K hK));refine Chain.callS rfl rfl (rotF' (a:=s) (m:=m) (b:=mid+m-s) hx rfl rfl (show ((mid+m:Nat):Int)-(s:Int)=((mid+m-s:Nat):Int)by omega) c1 c2 (by omega) hlen cmpV) rfl rfl rfl ?_ ?_;(focus ((repeat (first | exact trivial | refine⟨.inl rfl,?_⟩ | refine⟨.inr rfl,?_⟩)))));rintro zs ⟨hr1,hm1⟩;refine wk ?_;exact⟨zs,⟨hr1,hm1.mono (by omega) (by omega)⟩,⟨rfl,rfl,rfl,rfl,rfl,rfl,iv (by omega),trivial⟩,⟨rfl,trivial⟩⟩
      ·first
       | (exfalso;omega)
       | (refine wk ?_
          exact⟨xs,⟨⟨rfl,fun p=>by rw[rotI_id (.inr (by omega)) (by omega) (by omega)]⟩,.refl _ _ _⟩,⟨rfl,rfl,rfl,rfl,rfl,rfl,iv (by omega),trivial⟩,⟨rfl,trivial⟩⟩)
     ·first
      | (exfalso;omega)
      | (refine wk ?_
         exact⟨xs,⟨⟨rfl,fun p=>by rw[rotI_id (.inl (by omega)) (by omega) (by omega)]⟩,.refl _ _ _⟩,⟨rfl,rfl,rfl,rfl,rfl,rfl,iv (by omega),trivial⟩,⟨rfl,trivial⟩⟩)
    rintro zs ⟨hrot,hmz⟩;have hz:=hmz.tms hx;have hzl:=hmz.len;obtain⟨f1,f2,f3,f4,f5⟩:=rot_facts (mid:=mid) hA hB (fun p=>kat_eq (hrot.2 p)) (by omega) (by omega) (by omega) (by omega) (by omega) (by omega) (by
     rcases hl with hl | hl
     ·rcases hs0 with h | h
      ·exact .inr (.inl (by omega))
      ·exact .inl (by omega)
     ·exact .inr (.inr hl)) (by
     rcases hr with hr | hr
     ·rcases hs0 with h | h
      ·exact .inr (.inl (by omega))
      ·exact .inl (by omega)
     ·exact .inr (.inr (by rw[show mid+m-s-1=mid+m-1-s by omega];exact hr)))
    refine AC.seq ?_;refine AC.join (X:=List (List D)) (fun us=>⟨[(0,.r 220 0),(3,.d (.v (.int .i64 (b:Int)))),(4,.d cmpV),(18,.d (.v (.int .i64 (mid:Int)))),(24,.d (.v (.int .i64 ((mid+m-s:Nat):Int))))],[(220,.row 0 178 4 us)]⟩) (fun us=>Mv zs us a mid∧SrtR us a mid) ?_ ?_
    ·by_cases c1:a<s
     ·by_cases c2:s<mid
      ·refine wk ?_;((try (first | intro K ms hms hK | intro K hK));refine Chain.callS rfl rfl ((ih zs a s mid hz (by omega) c1 c2 (by omega) (by omega) f1 f2).cast rfl rfl rfl) rfl rfl rfl ?_ ?_;(focus ((repeat (first | exact trivial | refine⟨.inl rfl,?_⟩ | refine⟨.inr rfl,?_⟩)))));rintro us ⟨hr1,hm1⟩;refine wk ?_;exact⟨us,⟨hr1,hm1⟩,⟨rfl,rfl,rfl,rfl,rfl,trivial⟩,⟨rfl,trivial⟩⟩
      ·first
       | (exfalso;omega)
       | (refine wk ?_
          have:mid=s:=by omega
          exact⟨zs,⟨.refl _ _ _,by rw[this];exact f1⟩,⟨rfl,rfl,rfl,rfl,rfl,trivial⟩,⟨rfl,trivial⟩⟩)
     ·first
      | (exfalso;omega)
      | (refine wk ?_
         have:a=s:=by omega
         exact⟨zs,⟨.refl _ _ _,by rw[this];exact f2⟩,⟨rfl,rfl,rfl,rfl,rfl,trivial⟩,⟨rfl,trivial⟩⟩)
    rintro us ⟨hmu,hsu⟩;have hu:=hmu.tms hz;have hul:=hmu.len;have hmu2:=hmz.trans (hmu.mono (a':=a) (b':=b) (by omega) (by omega));by_cases c1:mid<mid+m-s
    ·by_cases c2:mid+m-s<b
     ·refine wk ?_;((try (first | intro K ms hms hK | intro K hK));refine Chain.callS rfl rfl ((ih us mid (mid+m-s) b hu (by omega) c1 c2 (by omega) (by omega) (f3.mv hmu (.inr (by omega))) (f4.mv hmu (.inr (by omega)))).cast rfl rfl rfl) rfl rfl rfl ?_ ?_;(focus ((repeat (first | exact trivial | refine⟨.inl rfl,?_⟩ | refine⟨.inr rfl,?_⟩)))));rintro vs ⟨hr1,hm1⟩;refine wk ?_;exact⟨vs,⟨hmu2.trans (hr1.mono (by omega) (by omega)),halves_done f5 hmu hsu hr1 hm1⟩,rfl⟩
     ·first
      | (exfalso;omega)
      | (refine wk ?_
         have e1:b=mid+m-s:=by omega
         exact⟨us,⟨hmu2,halves_done f5 hmu hsu (.refl _ _ _) (by rw[e1];exact f3.mv hmu (.inr (by omega)))⟩,rfl⟩)
    ·first
     | (exfalso;omega)
     | (refine wk ?_
        have e1:mid+m-s=mid:=by omega
        exact⟨us,⟨hmu2,halves_done f5 hmu hsu (.refl _ _ _) (by rw[e1]at f4;exact f4.mv hmu (.inr (by omega)))⟩,rfl⟩)
   ·refine wk ?_;((try (first | intro K ms hms hK | intro K hK));(first | apply Chain.go | apply Chain.goD);exact rfl;exact rfl;exact Loc.conv rfl rfl (wrap_u64 (by omega) (by omega)));((try (first | intro K ms hms hK | intro K hK));(first | apply Chain.go | apply Chain.goD);exact rfl;exact rfl;exact Loc.shr1 rfl rfl rfl);((try (first | intro K ms hms hK | intro K hK));(first | apply Chain.go | apply Chain.goD);exact rfl;exact rfl;exact Loc.conv rfl rfl (half_wrap (by omega) (by omega)));refine wk ?_;((try (first | intro K ms hms hK | intro K hK));(first | apply Chain.go | apply Chain.goD);exact rfl;exact rfl;exact Loc.idxR (i:=mid+m-1-(s+r) / 2) rfl rfl rfl rfl (by omega) (by omega) rfl);refine wk ?_;((try (first | intro K ms hms hK | intro K hK));(first | apply Chain.go | apply Chain.goD);exact rfl;exact rfl;exact Loc.loadEw rfl rfl rfl (tms_get hx (i:=mid+m-1-(s+r) / 2) (by omega)) rfl);refine wk ?_;((try (first | intro K ms hms hK | intro K hK));(first | apply Chain.go | apply Chain.goD);exact rfl;exact rfl;exact Loc.idxR (i:=(s+r) / 2) rfl rfl rfl rfl (by omega) (by omega) rfl);refine wk ?_;((try (first | intro K ms hms hK | intro K hK));(first | apply Chain.go | apply Chain.goD);exact rfl;exact rfl;exact Loc.loadEw rfl rfl rfl (tms_get hx (i:=(s+r) / 2) (by omega)) rfl)
    ((try (first | intro K ms hms hK | intro K hK));(first | apply Chain.go | apply Chain.goD);exact rfl;exact rfl;refine Loc.callVD (cmpAt hx (i:=mid+m-1-(s+r) / 2) (j:=(s+r) / 2) (by omega) (by omega)) rfl rfl ?_;(repeat (first | exact trivial | refine⟨.inl rfl,?_⟩ | refine⟨.inr rfl,?_⟩)));refine s1 (fun h5=>?_) (fun h5=>?_)
    ·rw[cmpK_neg]at h5;refine wk ?_;exact⟨(s,(s+r) / 2),⟨hs,by dsimp only;omega,by dsimp only;omega,hl,.inr (by dsimp only;omega)⟩,by dsimp only;omega,⟨rfl,rfl,rfl,rfl,rfl,rfl,rfl,rfl,rfl,iv (by dsimp only;omega),trivial⟩,⟨rfl,trivial⟩⟩
    ·rw[cmpK_neg]at h5;refine wk ?_;exact⟨((s+r) / 2+1,r),⟨by dsimp only;omega,by dsimp only;omega,hr0,.inr (by dsimp only;rw[Nat.add_sub_cancel,show mid+m-((s+r) / 2+1)=mid+m-1-(s+r) / 2 by omega];omega),hr⟩,by dsimp only;omega,⟨rfl,rfl,rfl,rfl,rfl,rfl,rfl,rfl,iv (by dsimp only;omega),rfl,trivial⟩,⟨rfl,trivial⟩⟩
   ·have:s=r:=by omega
    subst this
    (repeat (first
      | refine Chain.no rfl rfl ?_
      | refine Chain.noD rfl rfl ?_
      | ((first | apply Chain.go | apply Chain.goD);exact rfl;exact rfl;first
        | exact Loc.move (v:= .d _) rfl rfl
        | exact Loc.assign (v:= .d _) rfl rfl
        | exact Loc.loadP1 rfl rfl rfl rfl
        | exact Loc.loadQ1 rfl rfl rfl
        | exact Loc.fieldP rfl rfl rfl
        | exact Loc.fieldQ rfl rfl
        | exact Loc.pickT (v:= .d _) rfl rfl rfl
        | exact Loc.pickF (v:= .d _) rfl rfl rfl
        | exact Loc.loadPn rfl rfl rfl rfl (by kernel_rfl)
        | exact Loc.loadQw rfl rfl rfl
        | exact Loc.loadQn rfl rfl rfl rfl
        | exact Loc.idxM rfl rfl rfl rfl (by assumption) rfl
        | exact Loc.lenM rfl rfl
        | exact Loc.lenN rfl rfl
        | exact Loc.lenR rfl rfl rfl
        | exact Loc.len rfl rfl
        | exact Loc.lssT rfl rfl rfl (by omega)
        | exact Loc.lssF rfl rfl rfl (by omega)
        | exact Loc.eqlT rfl rfl rfl (by omega)
        | exact Loc.eqlF rfl rfl rfl (by omega)
        | exact Loc.neqT rfl rfl rfl (by omega)
        | exact Loc.neqF rfl rfl rfl (by omega)
        | exact Loc.gtrT rfl rfl rfl (by omega)
        | exact Loc.gtrF rfl rfl rfl (by omega)
        | exact Loc.geqT rfl rfl rfl (by omega)
        | exact Loc.geqF rfl rfl rfl (by omega)
        | exact Loc.leqT rfl rfl rfl (by omega)
        | exact Loc.leqF rfl rfl rfl (by omega)
        | exact Loc.add rfl rfl rfl (IntWalk.i64_in _ (by omega))
        | exact Loc.sub rfl rfl rfl (IntWalk.i64_in _ (by omega))
        | exact Loc.notT rfl rfl
        | exact Loc.notF rfl rfl
        | exact Loc.fieldE rfl rfl rfl
        | exact Loc.loadE1 rfl rfl rfl (by assumption) rfl
        | exact Loc.idxR rfl rfl rfl rfl rfl (by omega) rfl
        | exact Loc.move (v:= .g _) rfl rfl
        | exact Loc.move (v:= .p _ _) rfl rfl
        | exact Loc.move (v:= .r _ _) rfl rfl
        | exact Loc.move (v:= .t _) rfl rfl
        | exact Loc.assign (v:= .g _) rfl rfl
        | exact Loc.assign (v:= .r _ _) rfl rfl
        | exact Loc.assign (v:= .p _ _) rfl rfl
        | exact Loc.extract (v:= .d _) rfl rfl rfl rfl
        | exact Loc.extract (v:= .g _) rfl rfl rfl rfl
        | exact Loc.pickT (v:= .g _) rfl rfl rfl
        | exact Loc.pickF (v:= .g _) rfl rfl rfl
        | exact Loc.move (v:= .un) rfl rfl
        | exact Loc.build rfl rfl rfl rfl
        | exact Loc.litP rfl rfl rfl rfl rfl rfl rfl)
      | refine Chain.nil0 (hK _ ?_)
      | ((first | apply Chain.st | apply Chain.stD);exact rfl;exact rfl;(first
        | exact Do.storeP rfl rfl rfl rfl .g rfl rfl rfl
        | exact Do.storeP rfl rfl rfl rfl .d rfl rfl rfl
        | exact Do.storeP rfl rfl rfl rfl (.r rfl) rfl rfl rfl);exact rfl;exact rfl)
      | ((first | apply Chain.ef | apply Chain.efD);exact rfl;exact rfl;(first
        | exact Do.alloc rfl rfl rfl
        | exact Do.box rfl rfl rfl .g rfl
        | exact Do.box rfl rfl rfl .d rfl
        | exact Do.lit0 rfl rfl
        | exact Do.append1 rfl rfl rfl rfl rfl rfl (by first | omega | (simp;omega))
        | exact Do.appendN1 rfl rfl rfl rfl rfl rfl);exact rfl;exact rfl)
      | refine Chain.nilD (by rw[hms];kernel_rfl) (hK _ ?_)
      | refine Chain.noN rfl rfl ?_))
    refine AC.condF rfl ?_;refine AC.exit ?_;refine AC.seq ?_;refine AC.reg (by decide+kernel) ?_;(first | intro K ms hms hK | intro K hK)
    (repeat (first
      | refine Chain.no rfl rfl ?_
      | refine Chain.noD rfl rfl ?_
      | ((first | apply Chain.go | apply Chain.goD);exact rfl;exact rfl;first
        | exact Loc.move (v:= .d _) rfl rfl
        | exact Loc.assign (v:= .d _) rfl rfl
        | exact Loc.loadP1 rfl rfl rfl rfl
        | exact Loc.loadQ1 rfl rfl rfl
        | exact Loc.fieldP rfl rfl rfl
        | exact Loc.fieldQ rfl rfl
        | exact Loc.pickT (v:= .d _) rfl rfl rfl
        | exact Loc.pickF (v:= .d _) rfl rfl rfl
        | exact Loc.loadPn rfl rfl rfl rfl (by kernel_rfl)
        | exact Loc.loadQw rfl rfl rfl
        | exact Loc.loadQn rfl rfl rfl rfl
        | exact Loc.idxM rfl rfl rfl rfl (by assumption) rfl
        | exact Loc.lenM rfl rfl
        | exact Loc.lenN rfl rfl
        | exact Loc.lenR rfl rfl rfl
        | exact Loc.len rfl rfl
        | exact Loc.lssT rfl rfl rfl (by omega)
        | exact Loc.lssF rfl rfl rfl (by omega)
        | exact Loc.eqlT rfl rfl rfl (by omega)
        | exact Loc.eqlF rfl rfl rfl (by omega)
        | exact Loc.neqT rfl rfl rfl (by omega)
        | exact Loc.neqF rfl rfl rfl (by omega)
        | exact Loc.gtrT rfl rfl rfl (by omega)
        | exact Loc.gtrF rfl rfl rfl (by omega)
        | exact Loc.geqT rfl rfl rfl (by omega)
        | exact Loc.geqF rfl rfl rfl (by omega)
        | exact Loc.leqT rfl rfl rfl (by omega)
        | exact Loc.leqF rfl rfl rfl (by omega)
        | exact Loc.add rfl rfl rfl (IntWalk.i64_in _ (by omega))
        | exact Loc.sub rfl rfl rfl (IntWalk.i64_in _ (by omega))
        | exact Loc.notT rfl rfl
        | exact Loc.notF rfl rfl
        | exact Loc.fieldE rfl rfl rfl
        | exact Loc.loadE1 rfl rfl rfl (by assumption) rfl
        | exact Loc.idxR rfl rfl rfl rfl rfl (by omega) rfl
        | exact Loc.move (v:= .g _) rfl rfl
        | exact Loc.move (v:= .p _ _) rfl rfl
        | exact Loc.move (v:= .r _ _) rfl rfl
        | exact Loc.move (v:= .t _) rfl rfl
        | exact Loc.assign (v:= .g _) rfl rfl
        | exact Loc.assign (v:= .r _ _) rfl rfl
        | exact Loc.assign (v:= .p _ _) rfl rfl
        | exact Loc.extract (v:= .d _) rfl rfl rfl rfl
        | exact Loc.extract (v:= .g _) rfl rfl rfl rfl
        | exact Loc.pickT (v:= .g _) rfl rfl rfl
        | exact Loc.pickF (v:= .g _) rfl rfl rfl
        | exact Loc.move (v:= .un) rfl rfl
        | exact Loc.build rfl rfl rfl rfl
        | exact Loc.litP rfl rfl rfl rfl rfl rfl rfl)
      | refine Chain.nil0 (hK _ ?_)
      | ((first | apply Chain.st | apply Chain.stD);exact rfl;exact rfl;(first
        | exact Do.storeP rfl rfl rfl rfl .g rfl rfl rfl
        | exact Do.storeP rfl rfl rfl rfl .d rfl rfl rfl
        | exact Do.storeP rfl rfl rfl rfl (.r rfl) rfl rfl rfl);exact rfl;exact rfl)
      | ((first | apply Chain.ef | apply Chain.efD);exact rfl;exact rfl;(first
        | exact Do.alloc rfl rfl rfl
        | exact Do.box rfl rfl rfl .g rfl
        | exact Do.box rfl rfl rfl .d rfl
        | exact Do.lit0 rfl rfl
        | exact Do.append1 rfl rfl rfl rfl rfl rfl (by first | omega | (simp;omega))
        | exact Do.appendN1 rfl rfl rfl rfl rfl rfl);exact rfl;exact rfl)
      | refine Chain.nilD (by rw[hms];kernel_rfl) (hK _ ?_)
      | refine Chain.noN rfl rfl ?_))
    have hse:s≤mid:=by omega
    refine AC.seq ?_;refine AC.join (X:=List (List D)) (fun zs=>⟨[(0,.r 220 0),(1,.d (.v (.int .i64 (a:Int)))),(3,.d (.v (.int .i64 (b:Int)))),(4,.d cmpV),(18,.d (.v (.int .i64 (mid:Int)))),(20,.d (.v (.int .i64 (s:Int)))),(24,.d (.v (.int .i64 ((mid+m-s:Nat):Int))))],[(220,.row 0 178 4 zs)]⟩) (fun zs=>rotAt xs zs s m (mid+m-s)∧Mv xs zs a b) ?_ ?_
    ·by_cases c1:s<m
     ·by_cases c2:m<mid+m-s
      ·refine wk ?_;((try (first | intro K ms hms hK | intro K hK));refine Chain.callS rfl rfl (rotF' (a:=s) (m:=m) (b:=mid+m-s) hx rfl rfl (show ((mid+m:Nat):Int)-(s:Int)=((mid+m-s:Nat):Int)by omega) c1 c2 (by omega) hlen cmpV) rfl rfl rfl ?_ ?_;(focus ((repeat (first | exact trivial | refine⟨.inl rfl,?_⟩ | refine⟨.inr rfl,?_⟩)))));rintro zs ⟨hr1,hm1⟩;refine wk ?_;exact⟨zs,⟨hr1,hm1.mono (by omega) (by omega)⟩,⟨rfl,rfl,rfl,rfl,rfl,rfl,iv (by omega),trivial⟩,⟨rfl,trivial⟩⟩
      ·first
       | (exfalso;omega)
       | (refine wk ?_
          exact⟨xs,⟨⟨rfl,fun p=>by rw[rotI_id (.inr (by omega)) (by omega) (by omega)]⟩,.refl _ _ _⟩,⟨rfl,rfl,rfl,rfl,rfl,rfl,iv (by omega),trivial⟩,⟨rfl,trivial⟩⟩)
     ·first
      | (exfalso;omega)
      | (refine wk ?_
         exact⟨xs,⟨⟨rfl,fun p=>by rw[rotI_id (.inl (by omega)) (by omega) (by omega)]⟩,.refl _ _ _⟩,⟨rfl,rfl,rfl,rfl,rfl,rfl,iv (by omega),trivial⟩,⟨rfl,trivial⟩⟩)
    rintro zs ⟨hrot,hmz⟩;have hz:=hmz.tms hx;have hzl:=hmz.len;obtain⟨f1,f2,f3,f4,f5⟩:=rot_facts (mid:=mid) hA hB (fun p=>kat_eq (hrot.2 p)) (by omega) (by omega) (by omega) (by omega) (by omega) (by omega) (by
     rcases hl with hl | hl
     ·rcases hs0 with h | h
      ·exact .inr (.inl (by omega))
      ·exact .inl (by omega)
     ·exact .inr (.inr hl)) (by
     rcases hr with hr | hr
     ·rcases hs0 with h | h
      ·exact .inr (.inl (by omega))
      ·exact .inl (by omega)
     ·exact .inr (.inr (by rw[show mid+m-s-1=mid+m-1-s by omega];exact hr)))
    refine AC.seq ?_;refine AC.join (X:=List (List D)) (fun us=>⟨[(0,.r 220 0),(3,.d (.v (.int .i64 (b:Int)))),(4,.d cmpV),(18,.d (.v (.int .i64 (mid:Int)))),(24,.d (.v (.int .i64 ((mid+m-s:Nat):Int))))],[(220,.row 0 178 4 us)]⟩) (fun us=>Mv zs us a mid∧SrtR us a mid) ?_ ?_
    ·by_cases c1:a<s
     ·by_cases c2:s<mid
      ·refine wk ?_;((try (first | intro K ms hms hK | intro K hK));refine Chain.callS rfl rfl ((ih zs a s mid hz (by omega) c1 c2 (by omega) (by omega) f1 f2).cast rfl rfl rfl) rfl rfl rfl ?_ ?_;(focus ((repeat (first | exact trivial | refine⟨.inl rfl,?_⟩ | refine⟨.inr rfl,?_⟩)))));rintro us ⟨hr1,hm1⟩;refine wk ?_;exact⟨us,⟨hr1,hm1⟩,⟨rfl,rfl,rfl,rfl,rfl,trivial⟩,⟨rfl,trivial⟩⟩
      ·first
       | (exfalso;omega)
       | (refine wk ?_
          have:mid=s:=by omega
          exact⟨zs,⟨.refl _ _ _,by rw[this];exact f1⟩,⟨rfl,rfl,rfl,rfl,rfl,trivial⟩,⟨rfl,trivial⟩⟩)
     ·first
      | (exfalso;omega)
      | (refine wk ?_
         have:a=s:=by omega
         exact⟨zs,⟨.refl _ _ _,by rw[this];exact f2⟩,⟨rfl,rfl,rfl,rfl,rfl,trivial⟩,⟨rfl,trivial⟩⟩)
    rintro us ⟨hmu,hsu⟩;have hu:=hmu.tms hz;have hul:=hmu.len;have hmu2:=hmz.trans (hmu.mono (a':=a) (b':=b) (by omega) (by omega));by_cases c1:mid<mid+m-s
    ·by_cases c2:mid+m-s<b
     ·refine wk ?_;((try (first | intro K ms hms hK | intro K hK));refine Chain.callS rfl rfl ((ih us mid (mid+m-s) b hu (by omega) c1 c2 (by omega) (by omega) (f3.mv hmu (.inr (by omega))) (f4.mv hmu (.inr (by omega)))).cast rfl rfl rfl) rfl rfl rfl ?_ ?_;(focus ((repeat (first | exact trivial | refine⟨.inl rfl,?_⟩ | refine⟨.inr rfl,?_⟩)))));rintro vs ⟨hr1,hm1⟩;refine wk ?_;exact⟨vs,⟨hmu2.trans (hr1.mono (by omega) (by omega)),halves_done f5 hmu hsu hr1 hm1⟩,rfl⟩
     ·first
      | (exfalso;omega)
      | (refine wk ?_
         have e1:b=mid+m-s:=by omega
         exact⟨us,⟨hmu2,halves_done f5 hmu hsu (.refl _ _ _) (by rw[e1];exact f3.mv hmu (.inr (by omega)))⟩,rfl⟩)
    ·first
     | (exfalso;omega)
     | (refine wk ?_
        have e1:mid+m-s=mid:=by omega
        exact⟨us,⟨hmu2,halves_done f5 hmu hsu (.refl _ _ _) (by rw[e1]at f4;exact f4.mv hmu (.inr (by omega)))⟩,rfl⟩)
end Go.Proofs.YtbbpecfapohlaaaGreatDoor
namespace Go.Proofs.YtbbpecfapohlaaaGreatDoor
open Go.RowKit
attribute [local irreducible] AC Do St
theorem symF:∀ (n:Nat) (xs:List (List D)) (a m b:Nat),b-a<n→(∀c∈xs,tm c)→a<m→m<b→b≤xs.length→xs.length≤1000000000→SrtR xs a m→SrtR xs m b→SymC xs a m b:=by
 intro n
 induction n with
 | zero=>intro xs a m b h;omega
 | succ n ih=>
   intro xs a m b h hx ham hmb hb hlen hA hB;exact symStep hx ham hmb hb hlen hA hB fun ys a' m' b' hy h1 h2 h3 h4 h5 h6 h7=>ih ys a' m' b' (by omega) hy h2 h3 h4 h5 h6 h7
theorem symF'{xs:List (List D)}(hx:∀ c∈xs,tm c){a m b:Nat}{A M B:Int}(hA:A=(a:Int))(hM:M=(m:Int))(hB:B=(b:Int))(ham:a<m)(hmb:m<b)(hb:b≤xs.length)(hlen:xs.length≤1000000000)(sA:SrtR xs a m)(sB:SrtR xs m b):FnS Tryz.prog 304 178 4 xs [.d (.v (.int .i64 A)),.d (.v (.int .i64 M)),.d (.v (.int .i64 B)),.d cmpV] (fun ys=>Mv xs ys a b∧SrtR ys a b):=
 (symF _ xs a m b (Nat.lt_succ_self _) hx ham hmb hb hlen sA sB).cast hA hM hB
theorem insF'{xs:List (List D)}(hx:∀ c∈xs,tm c){a b:Nat}{A B:Int}(hA:A=(a:Int))(hB:B=(b:Int))(hab:a≤b)(hb:b≤xs.length)(hlen:xs.length≤1000000000):FnS Tryz.prog 303 178 4 xs [.d (.v (.int .i64 A)),.d (.v (.int .i64 B)),.d cmpV] (fun ys=>Mv xs ys a b∧SrtR ys a b):=by
 subst hA hB;exact insF hx hab hb hlen
def SrtB(zs:List (List D))(w n:Nat):Prop:=∀ k,SrtR zs (k*w) (min (k*w+w) n)
theorem SrtR.sub{xs:List (List D)}{a b c d:Nat}(h:SrtR xs a b)(h1:a≤c)(h2:d≤b):SrtR xs c d:=fun p q q1 q2 q3=>h p q (by omega) q2 (by omega)
structure InsB(xs zs:List (List D))(w k n:Nat):Prop where
 mv:Mv xs zs 0 n
 le:k*w≤n
 done:∀ j,j<k→SrtR zs (j*w) (j*w+w)
theorem InsB.step{xs zs ys:List (List D)}{w k n:Nat}(h:InsB xs zs w k n)(hle:k*w+w≤n)(hm:Mv zs ys (k*w) (k*w+w))(hs:SrtR ys (k*w) (k*w+w)):InsB xs ys w (k+1) n:=by
 refine⟨h.mv.trans (hm.mono (Nat.zero_le _) hle),by rw[Nat.add_mul];omega,fun j hj=>?_⟩;by_cases e:j=k
 ·rw[e];exact hs
 ·have:(j+1)*w≤k*w:=Nat.mul_le_mul_right _ (by omega);rw[Nat.add_mul]at this;exact(h.done j (by omega)).mv hm (.inl (by omega))
theorem InsB.fin{xs zs ys:List (List D)}{w k n:Nat}(h:InsB xs zs w k n)(hlt:n<k*w+w)(hm:Mv zs ys (k*w) n)(hs:SrtR ys (k*w) n):Mv xs ys 0 n∧SrtB ys w n:=by
 refine⟨h.mv.trans (hm.mono (Nat.zero_le _) (Nat.le_refl _)),fun j=>?_⟩;rcases Nat.lt_trichotomy j k with e | e | e
 ·have:(j+1)*w≤k*w:=Nat.mul_le_mul_right _ (by omega);rw[Nat.add_mul]at this;exact((h.done j e).mv hm (.inl (by omega))).sub (Nat.le_refl _) (by omega)
 ·rw[e];exact hs.sub (Nat.le_refl _) (by omega)
 ·have:(k+1)*w≤j*w:=Nat.mul_le_mul_right _ (by omega);rw[Nat.add_mul]at this;exact .one _ (by omega)
structure MrgB(xs zs:List (List D))(w k n:Nat):Prop where
 ins:InsB xs zs (w+w) k n
 rest:∀ j,k*(w+w)≤j*w→SrtR zs (j*w) (min (j*w+w) n)
theorem dbl(k w:Nat):(2*k)*w=k*(w+w):=by rw[Nat.mul_add,Nat.mul_assoc,Nat.two_mul]
theorem dbl1(k w:Nat):(2*k+1)*w=k*(w+w)+w:=by rw[Nat.add_mul,dbl,Nat.one_mul]
theorem MrgB.step{xs zs ys:List (List D)}{w k n:Nat}(h:MrgB xs zs w k n)(hle:k*(w+w)+(w+w)≤n)(hm:Mv zs ys (k*(w+w)) (k*(w+w)+(w+w)))(hs:SrtR ys (k*(w+w)) (k*(w+w)+(w+w))):MrgB xs ys w (k+1) n:=
 ⟨h.ins.step hle hm hs,fun j hj=>by
  rw[Nat.add_mul]at hj;exact(h.rest j (by omega)).mv hm (.inr (by omega))⟩
theorem stabF{xs:List (List D)}(hx:∀ c∈xs,tm c)(hlen:xs.length≤1000000000):FnS Tryz.prog 272 178 4 xs [.d (.v (.int .i64 (xs.length:Int))),.d cmpV] (fun ys=>Mv xs ys 0 xs.length∧SrtR ys 0 xs.length):=by
 obtain⟨n,hn⟩:∃ n,n=xs.length:=⟨_,rfl⟩
 rw[←hn];refine FnS.of Tryz.func272 rfl (by kernel_rfl) Tryz.ntmps272 Tryz.results272 rfl fun w0 S0 v=>?_;refine wk ?_;refine AC.loop (X:=Nat×List (List D)) (fun x=>⟨[(0,.r 63 0),(1,.d (.v (.int .i64 (n:Int)))),(2,.d cmpV),(6,.d (.v (.int .i64 20))),(7,.d (.v (.int .i64 ((x.1*20:Nat):Int)))),(8,.d (.v (.int .i64 ((x.1*20+20:Nat):Int))))],[(63,.row 0 178 4 x.2)]⟩) (fun x=>InsB xs x.2 20 x.1 n) (fun x=>n-x.1*20) (0,xs) ⟨.refl _ _ _,by omega,fun j h=>absurd h (Nat.not_lt_zero _)⟩ ⟨rfl,rfl,rfl,rfl,rfl,rfl,trivial⟩ ⟨rfl,trivial⟩ ?_;rintro ⟨k,zs⟩ hi;dsimp only at hi ⊢;have hz:=hi.mv.tms hx;have hzl:=hi.mv.len;have hle:=hi.le;refine wk ?_;(first | intro K ms hms hK | intro K hK);refine s1 (fun h1=>?_) (fun h1=>?_)
 ·refine wk ?_;((try (first | intro K ms hms hK | intro K hK));refine Chain.callS rfl rfl (insF' (a:=k*20) (b:=k*20+20) hz rfl rfl (by omega) (by omega) (by omega)) rfl rfl rfl ?_ ?_;(focus ((repeat (first | exact trivial | refine⟨.inl rfl,?_⟩ | refine⟨.inr rfl,?_⟩)))));rintro ys ⟨hm,hs⟩;refine wk ?_;exact⟨(k+1,ys),hi.step (by omega) hm hs,by dsimp only;omega,⟨rfl,rfl,rfl,rfl,iv (by dsimp only;omega),iv (by dsimp only;omega),trivial⟩,⟨rfl,trivial⟩⟩
 ·refine wk ?_;((try (first | intro K ms hms hK | intro K hK));refine Chain.callS rfl rfl (insF' (a:=k*20) (b:=n) hz rfl rfl (by omega) (by omega) (by omega)) rfl rfl rfl ?_ ?_;(focus ((repeat (first | exact trivial | refine⟨.inl rfl,?_⟩ | refine⟨.inr rfl,?_⟩)))));rintro ys ⟨hm,hs⟩;obtain⟨hmy,hby⟩:=hi.fin (by omega) hm hs;clear hi hz hzl hle hm hs h1;refine wk ?_;refine AC.loop (X:=Nat×List (List D)) (fun x=>⟨[(0,.r 63 0),(1,.d (.v (.int .i64 (n:Int)))),(2,.d cmpV),(6,.d (.v (.int .i64 ((x.1:Nat):Int))))],[(63,.row 0 178 4 x.2)]⟩) (fun x=>0<x.1∧Mv xs x.2 0 n∧SrtB x.2 x.1 n) (fun x=>n-x.1) (20,ys) ⟨by dsimp only;omega,hmy,hby⟩ ⟨rfl,rfl,rfl,rfl,trivial⟩ ⟨rfl,trivial⟩ ?_;rintro ⟨w,us⟩ ⟨hw,hmu,hbu⟩;dsimp only at hw hmu hbu ⊢;refine wk ?_;(first | intro K ms hms hK | intro K hK);refine s1 (fun h2=>?_) (fun h2=>?_)
  ·refine wk ?_;((try (first | intro K ms hms hK | intro K hK));(first | apply Chain.go | apply Chain.goD);exact rfl;exact rfl;exact Loc.mul rfl rfl rfl (IntWalk.i64_in _ (by omega)));refine wk ?_;refine AC.loop (X:=Nat×List (List D)) (fun x=>⟨[(0,.r 63 0),(1,.d (.v (.int .i64 (n:Int)))),(2,.d cmpV),(6,.d (.v (.int .i64 (w:Int)))),(7,.d (.v (.int .i64 ((x.1*(w+w):Nat):Int)))),(8,.d (.v (.int .i64 ((x.1*(w+w)+(w+w):Nat):Int))))],[(63,.row 0 178 4 x.2)]⟩) (fun x=>MrgB xs x.2 w x.1 n) (fun x=>n-x.1*(w+w)) (0,us) ⟨⟨hmu,by omega,fun j h=>absurd h (Nat.not_lt_zero _)⟩,fun j _=>hbu j⟩ ⟨rfl,rfl,rfl,rfl,iv (by dsimp only;omega),iv (by dsimp only;omega),trivial⟩ ⟨rfl,trivial⟩ ?_;rintro ⟨j,zs⟩ hi;dsimp only at hi ⊢;have hz:=hi.ins.mv.tms hx;have hzl:=hi.ins.mv.len;have hle:=hi.ins.le;have r1:=hi.rest (2*j) (by rw[dbl];exact Nat.le_refl _);have r2:=hi.rest (2*j+1) (by rw[dbl1];omega);rw[dbl]at r1;rw[dbl1]at r2;have hstep:= @MrgB.step xs zs;have hfin:= @InsB.fin xs zs;have hins:=hi.ins;have hmul:(j+1)*(w+w)=j*(w+w)+(w+w):=by rw[Nat.add_mul,Nat.one_mul]
   refine wk ?_;(first | intro K ms hms hK | intro K hK);refine s1 (fun h3=>?_) (fun h3=>?_)
   ·refine wk ?_;((try (first | intro K ms hms hK | intro K hK));refine Chain.callS rfl rfl (symF' (a:=j*(w+w)) (m:=j*(w+w)+w) (b:=j*(w+w)+(w+w)) hz rfl (show ((j*(w+w):Nat):Int)+(w:Int)=((j*(w+w)+w:Nat):Int)by omega) rfl (by omega) (by omega) (by omega) (by omega) (r1.sub (Nat.le_refl _) (by omega)) (r2.sub (Nat.le_refl _) (by omega))) rfl rfl rfl ?_ ?_;(focus ((repeat (first | exact trivial | refine⟨.inl rfl,?_⟩ | refine⟨.inr rfl,?_⟩)))));rintro vs ⟨hm,hs⟩;refine wk ?_;((try (first | intro K ms hms hK | intro K hK));(first | apply Chain.go | apply Chain.goD);exact rfl;exact rfl;exact Loc.mul rfl rfl rfl (IntWalk.i64_in _ (by omega)));refine wk ?_;exact⟨(j+1,vs),hi.step (by omega) hm hs,by dsimp only;rw[hmul];omega,⟨rfl,rfl,rfl,rfl,iv (by dsimp only;rw[hmul]),iv (by dsimp only;rw[hmul];omega),trivial⟩,⟨rfl,trivial⟩⟩
   ·by_cases h4:j*(w+w)+w<n
    ·refine wk ?_;((try (first | intro K ms hms hK | intro K hK));refine Chain.callS rfl rfl (symF' (a:=j*(w+w)) (m:=j*(w+w)+w) (b:=n) hz rfl (show ((j*(w+w):Nat):Int)+(w:Int)=((j*(w+w)+w:Nat):Int)by omega) rfl (by omega) h4 (by omega) (by omega) (r1.sub (Nat.le_refl _) (by omega)) (r2.sub (Nat.le_refl _) (by omega))) rfl rfl rfl ?_ ?_;(focus ((repeat (first | exact trivial | refine⟨.inl rfl,?_⟩ | refine⟨.inr rfl,?_⟩)))));rintro vs ⟨hm,hs⟩;obtain⟨f1,f2⟩:=hins.fin (by omega) hm hs;refine wk ?_;((try (first | intro K ms hms hK | intro K hK));(first | apply Chain.go | apply Chain.goD);exact rfl;exact rfl;exact Loc.mul rfl rfl rfl (IntWalk.i64_in _ (by omega)));refine wk ?_;exact⟨(w+w,vs),⟨by dsimp only;omega,f1,f2⟩,by dsimp only;omega,⟨rfl,rfl,rfl,iv (by dsimp only;omega),trivial⟩,⟨rfl,trivial⟩⟩
    ·obtain⟨f1,f2⟩:=hins.fin (by omega) (.refl _ _ _) (r1.sub (Nat.le_refl _) (by omega));refine wk ?_;((try (first | intro K ms hms hK | intro K hK));(first | apply Chain.go | apply Chain.goD);exact rfl;exact rfl;exact Loc.mul rfl rfl rfl (IntWalk.i64_in _ (by omega)));refine wk ?_;exact⟨(w+w,zs),⟨by dsimp only;omega,f1,f2⟩,by dsimp only;omega,⟨rfl,rfl,rfl,iv (by dsimp only;omega),trivial⟩,⟨rfl,trivial⟩⟩
  ·refine wk ?_;exact⟨us,⟨hmu,(hbu 0).sub (by omega) (by omega)⟩,rfl⟩
theorem sortF{xs:List (List D)}(hx:∀ c∈xs,tm c)(hlen:xs.length≤1000000000):FnS Tryz.prog 236 178 4 xs [.d cmpV] (fun ys=>Mv xs ys 0 xs.length∧SrtR ys 0 xs.length):=by
 refine FnS.of Tryz.func236 rfl (by kernel_rfl) Tryz.ntmps236 Tryz.results236 rfl fun w0 S0 v=>?_;refine wk ?_;((try (first | intro K ms hms hK | intro K hK));refine Chain.callS rfl rfl (stabF hx hlen) rfl rfl rfl ?_ ?_;(focus ((repeat (first | exact trivial | refine⟨.inl rfl,?_⟩ | refine⟨.inr rfl,?_⟩)))));rintro ys hy;refine wk ?_;exact⟨ys,hy,rfl⟩
end Go.Proofs.YtbbpecfapohlaaaGreatDoor
namespace Go.Proofs.YtbbpecfapohlaaaGreatDoor
open Go.RowKit
attribute [local irreducible] AC Do St
theorem cloneF{xs:List (List D)}(hk:∀ c∈xs,c.length=4)(hlen:xs.length≤1000000000):FnRow Tryz.prog 208 [.d (.l xs)] 178 4 xs:=by
 refine FnRow.of Tryz.func208 rfl (by kernel_rfl) Tryz.ntmps208 Tryz.results208 rfl fun w0 S0=>?_;refine wk ?_;(first | intro K ms hms hK | intro K hK);refine Chain.eqN rfl rfl rfl rfl (fun h u=>?_) (fun u=>?_)
 ·subst h
  (repeat (first
    | refine Chain.no rfl rfl ?_
    | refine Chain.noD rfl rfl ?_
    | ((first | apply Chain.go | apply Chain.goD);exact rfl;exact rfl;first
      | exact Loc.move (v:= .d _) rfl rfl
      | exact Loc.assign (v:= .d _) rfl rfl
      | exact Loc.loadP1 rfl rfl rfl rfl
      | exact Loc.loadQ1 rfl rfl rfl
      | exact Loc.fieldP rfl rfl rfl
      | exact Loc.fieldQ rfl rfl
      | exact Loc.pickT (v:= .d _) rfl rfl rfl
      | exact Loc.pickF (v:= .d _) rfl rfl rfl
      | exact Loc.loadPn rfl rfl rfl rfl (by kernel_rfl)
      | exact Loc.loadQw rfl rfl rfl
      | exact Loc.loadQn rfl rfl rfl rfl
      | exact Loc.idxM rfl rfl rfl rfl (by assumption) rfl
      | exact Loc.lenM rfl rfl
      | exact Loc.lenN rfl rfl
      | exact Loc.lenR rfl rfl rfl
      | exact Loc.len rfl rfl
      | exact Loc.lssT rfl rfl rfl (by omega)
      | exact Loc.lssF rfl rfl rfl (by omega)
      | exact Loc.eqlT rfl rfl rfl (by omega)
      | exact Loc.eqlF rfl rfl rfl (by omega)
      | exact Loc.neqT rfl rfl rfl (by omega)
      | exact Loc.neqF rfl rfl rfl (by omega)
      | exact Loc.gtrT rfl rfl rfl (by omega)
      | exact Loc.gtrF rfl rfl rfl (by omega)
      | exact Loc.geqT rfl rfl rfl (by omega)
      | exact Loc.geqF rfl rfl rfl (by omega)
      | exact Loc.leqT rfl rfl rfl (by omega)
      | exact Loc.leqF rfl rfl rfl (by omega)
      | exact Loc.add rfl rfl rfl (IntWalk.i64_in _ (by omega))
      | exact Loc.sub rfl rfl rfl (IntWalk.i64_in _ (by omega))
      | exact Loc.notT rfl rfl
      | exact Loc.notF rfl rfl
      | exact Loc.fieldE rfl rfl rfl
      | exact Loc.loadE1 rfl rfl rfl (by assumption) rfl
      | exact Loc.idxR rfl rfl rfl rfl rfl (by omega) rfl
      | exact Loc.move (v:= .g _) rfl rfl
      | exact Loc.move (v:= .p _ _) rfl rfl
      | exact Loc.move (v:= .r _ _) rfl rfl
      | exact Loc.move (v:= .t _) rfl rfl
      | exact Loc.assign (v:= .g _) rfl rfl
      | exact Loc.assign (v:= .r _ _) rfl rfl
      | exact Loc.assign (v:= .p _ _) rfl rfl
      | exact Loc.extract (v:= .d _) rfl rfl rfl rfl
      | exact Loc.extract (v:= .g _) rfl rfl rfl rfl
      | exact Loc.pickT (v:= .g _) rfl rfl rfl
      | exact Loc.pickF (v:= .g _) rfl rfl rfl
      | exact Loc.move (v:= .un) rfl rfl
      | exact Loc.build rfl rfl rfl rfl
      | exact Loc.litP rfl rfl rfl rfl rfl rfl rfl)
    | refine Chain.nil0 (hK _ ?_)
    | ((first | apply Chain.st | apply Chain.stD);exact rfl;exact rfl;(first
      | exact Do.storeP rfl rfl rfl rfl .g rfl rfl rfl
      | exact Do.storeP rfl rfl rfl rfl .d rfl rfl rfl
      | exact Do.storeP rfl rfl rfl rfl (.r rfl) rfl rfl rfl);exact rfl;exact rfl)
    | ((first | apply Chain.ef | apply Chain.efD);exact rfl;exact rfl;(first
      | exact Do.alloc rfl rfl rfl
      | exact Do.box rfl rfl rfl .g rfl
      | exact Do.box rfl rfl rfl .d rfl
      | exact Do.lit0 rfl rfl
      | exact Do.append1 rfl rfl rfl rfl rfl rfl (by first | omega | (simp;omega))
      | exact Do.appendN1 rfl rfl rfl rfl rfl rfl);exact rfl;exact rfl)
    | refine Chain.nilD (by rw[hms];kernel_rfl) (hK _ ?_)
    | refine Chain.noN rfl rfl ?_))
  refine AC.condT rfl ?_;refine AC.seq ?_;refine AC.reg (by decide+kernel) ?_;(first | intro K ms hms hK | intro K hK)
  (repeat (first
    | refine Chain.no rfl rfl ?_
    | refine Chain.noD rfl rfl ?_
    | ((first | apply Chain.go | apply Chain.goD);exact rfl;exact rfl;first
      | exact Loc.move (v:= .d _) rfl rfl
      | exact Loc.assign (v:= .d _) rfl rfl
      | exact Loc.loadP1 rfl rfl rfl rfl
      | exact Loc.loadQ1 rfl rfl rfl
      | exact Loc.fieldP rfl rfl rfl
      | exact Loc.fieldQ rfl rfl
      | exact Loc.pickT (v:= .d _) rfl rfl rfl
      | exact Loc.pickF (v:= .d _) rfl rfl rfl
      | exact Loc.loadPn rfl rfl rfl rfl (by kernel_rfl)
      | exact Loc.loadQw rfl rfl rfl
      | exact Loc.loadQn rfl rfl rfl rfl
      | exact Loc.idxM rfl rfl rfl rfl (by assumption) rfl
      | exact Loc.lenM rfl rfl
      | exact Loc.lenN rfl rfl
      | exact Loc.lenR rfl rfl rfl
      | exact Loc.len rfl rfl
      | exact Loc.lssT rfl rfl rfl (by omega)
      | exact Loc.lssF rfl rfl rfl (by omega)
      | exact Loc.eqlT rfl rfl rfl (by omega)
      | exact Loc.eqlF rfl rfl rfl (by omega)
      | exact Loc.neqT rfl rfl rfl (by omega)
      | exact Loc.neqF rfl rfl rfl (by omega)
      | exact Loc.gtrT rfl rfl rfl (by omega)
      | exact Loc.gtrF rfl rfl rfl (by omega)
      | exact Loc.geqT rfl rfl rfl (by omega)
      | exact Loc.geqF rfl rfl rfl (by omega)
      | exact Loc.leqT rfl rfl rfl (by omega)
      | exact Loc.leqF rfl rfl rfl (by omega)
      | exact Loc.add rfl rfl rfl (IntWalk.i64_in _ (by omega))
      | exact Loc.sub rfl rfl rfl (IntWalk.i64_in _ (by omega))
      | exact Loc.notT rfl rfl
      | exact Loc.notF rfl rfl
      | exact Loc.fieldE rfl rfl rfl
      | exact Loc.loadE1 rfl rfl rfl (by assumption) rfl
      | exact Loc.idxR rfl rfl rfl rfl rfl (by omega) rfl
      | exact Loc.move (v:= .g _) rfl rfl
      | exact Loc.move (v:= .p _ _) rfl rfl
      | exact Loc.move (v:= .r _ _) rfl rfl
      | exact Loc.move (v:= .t _) rfl rfl
      | exact Loc.assign (v:= .g _) rfl rfl
      | exact Loc.assign (v:= .r _ _) rfl rfl
      | exact Loc.assign (v:= .p _ _) rfl rfl
      | exact Loc.extract (v:= .d _) rfl rfl rfl rfl
      | exact Loc.extract (v:= .g _) rfl rfl rfl rfl
      | exact Loc.pickT (v:= .g _) rfl rfl rfl
      | exact Loc.pickF (v:= .g _) rfl rfl rfl
      | exact Loc.move (v:= .un) rfl rfl
      | exact Loc.build rfl rfl rfl rfl
      | exact Loc.litP rfl rfl rfl rfl rfl rfl rfl)
    | refine Chain.nil0 (hK _ ?_)
    | ((first | apply Chain.st | apply Chain.stD);exact rfl;exact rfl;(first
      | exact Do.storeP rfl rfl rfl rfl .g rfl rfl rfl
      | exact Do.storeP rfl rfl rfl rfl .d rfl rfl rfl
      | exact Do.storeP rfl rfl rfl rfl (.r rfl) rfl rfl rfl);exact rfl;exact rfl)
    | ((first | apply Chain.ef | apply Chain.efD);exact rfl;exact rfl;(first
      | exact Do.alloc rfl rfl rfl
      | exact Do.box rfl rfl rfl .g rfl
      | exact Do.box rfl rfl rfl .d rfl
      | exact Do.lit0 rfl rfl
      | exact Do.append1 rfl rfl rfl rfl rfl rfl (by first | omega | (simp;omega))
      | exact Do.appendN1 rfl rfl rfl rfl rfl rfl);exact rfl;exact rfl)
    | refine Chain.nilD (by rw[hms];kernel_rfl) (hK _ ?_)
    | refine Chain.noN rfl rfl ?_))
  refine AC.rowVar 2 7 178 4 rfl rfl ?_;refine wk ?_;exact⟨2,7,0,rfl,rfl,rfl⟩
 ·refine wk ?_;((try (first | intro K ms hms hK | intro K hK));(first | apply Chain.ef | apply Chain.efD);exact rfl;exact rfl;exact Do.append rfl rfl rfl rfl rfl hk (by simp;omega);exact rfl;exact rfl);refine wk ?_;exact⟨2,5,1,rfl,rfl,rfl⟩
end Go.Proofs.YtbbpecfapohlaaaGreatDoor
