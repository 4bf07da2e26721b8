import Derived.Test.YthdkkpocihkgbaaGreatDoorPrO
import Derived.Test.YthdkkpocihkgbaaGreatDoorPrH
import Derived.Test.YthdkkpocihkgbaaGreatDoorPrE
namespace Go.Proofs.YthdkkpocihkgbaaGreatDoor
open Go.RowKit
attribute [local irreducible] AC Do St
def moreB(e e':Ex)(n k:Nat):Prop:=tb e'.t≤tb e.t+k∧e'.t.length≤e.t.length+n∧bz e'.c≤bz e.c+k
theorem moreB.mono{e e':Ex}{n k n' k':Nat}(h:moreB e e' n k)(hn:n≤n')(hk:k≤k'):moreB e e' n' k':=⟨by have:=h.1;omega,by have:=h.2.1;omega,by have:=h.2.2;omega⟩
theorem moreB.refl(e:Ex)(n k:Nat):moreB e e n k:=⟨by omega,by omega,by omega⟩
theorem moreB.tr{a b c:Ex}{n k m j:Nat}(h:moreB a b n k)(g:moreB b c m j):moreB a c (n+m) (k+j):=⟨by have:=h.1;have:=g.1;omega,by have:=h.2.1;have:=g.2.1;omega,by have:=h.2.2;have:=g.2.2;omega⟩
def isSum(e:Ex)(k:Rat)(f e':Ex):Prop:=(∀v,coef e'.t v=coef e.t v+k*coef f.t v)∧e'.c=e.c+k*f.c
theorem isSum.zero(e:Ex)(k:Rat):isSum e k ⟨[],0⟩ e:=⟨fun v=>by simp only[coef];grind,by show e.c=e.c+k*0;grind⟩
end Go.Proofs.YthdkkpocihkgbaaGreatDoor
namespace Go.Proofs.YthdkkpocihkgbaaGreatDoor
open Go.RowKit
attribute [local irreducible] AC Do St
theorem fmX_t(i:Int)(w:List UInt8)(l:List ST)(n:Nat):fmX i (.mk true w l) n=if w=[116,114,117,101]then(.mk 5 0 [],[],true)else if w=[102,97,108,115,101]then(.mk 6 0 [],[],true)else(.mk 0 0 [],[],false):=by rw[fmX]
theorem fmX_0(i:Int)(w:List UInt8)(n:Nat):fmX i (.mk false w []) n=(.mk 0 0 [],[],false):=by rw[fmX]
theorem fmX_l(i:Int)(w:List UInt8)(h:ST)(t:List ST)(n:Nat):fmX i (.mk false w (h::t)) n=if h.b=true then(if kindX h.w≠0 then(.mk (kindX h.w) 0 (fmXs i t n).1,(fmXs i t n).2.1,(fmXs i t n).2.2&&!(decide (kindX h.w=2)&&!decide (t.length=1)))else cmpG n (cmpX i h.w t))else(.mk 0 0 [],[],false):=by rw[fmX]
theorem fmXs_cons(i:Int)(s:ST)(r:List ST)(n:Nat):fmXs i (s::r) n=((fmX i s n).1::(fmXs i r (n+(fmX i s n).2.1.length)).1,(fmX i s n).2.1++(fmXs i r (n+(fmX i s n).2.1.length)).2.1,(fmX i s n).2.2&&(fmXs i r (n+(fmX i s n).2.1.length)).2.2):=by rw[fmXs]
theorem fmXs_nil(i:Int)(n:Nat):fmXs i [] n=([],[],true):=by rw[fmXs]
theorem fmXs_len(i:Int):∀ (l:List ST) (n:Nat),(fmXs i l n).1.length=l.length
 | [],n=>by rw[fmXs_nil];rfl
 | s::r,n=>by rw[fmXs_cons,List.length_cons,List.length_cons,fmXs_len i r]
end Go.Proofs.YthdkkpocihkgbaaGreatDoor
