import Derived.Test.YthdkkpocihkgbaaGreatDoorPpH
set_option maxRecDepth 100000
set_option maxHeartbeats 32000000
namespace Go.Proofs.YthdkkpocihkgbaaGreatDoor
open Go.RowKit
attribute [local irreducible] AC Do St
structure CmH(i:Int)(v:List UInt8)(x y:ST)(k:Rat)(f1 g:Ex)(o1 o2:Option Rat)(ok1 ok2:Bool):Prop where
 hd:(v=[60,61]∧k=1∧dh v=1∧v[0]?=some 60∧v≠[110,111,116]∧v≠[97,110,100]∧v≠[111,114]∧v≠[62,61]∧v≠[60]∧v≠[62]∧v≠[61])∨(v=[62,61]∧k= -1∧dh v=1∧v[0]?=some 62∧v≠[110,111,116]∧v≠[97,110,100]∧v≠[111,114]∧v≠[60,61]∧v≠[60]∧v≠[62]∧v≠[61])∨(v=[60]∧k=1∧dh v=2∧v[0]?=some 60∧v≠[110,111,116]∧v≠[97,110,100]∧v≠[111,114]∧v≠[60,61]∧v≠[62,61]∧v≠[62]∧v≠[61])∨(v=[62]∧k= -1∧dh v=2∧v[0]?=some 62∧v≠[110,111,116]∧v≠[97,110,100]∧v≠[111,114]∧v≠[60,61]∧v≠[62,61]∧v≠[60]∧v≠[61])∨(v=[61]∧k=1∧dh v=3∧v[0]?=some 61∧v≠[110,111,116]∧v≠[97,110,100]∧v≠[111,114]∧v≠[60,61]∧v≠[62,61]∧v≠[60]∧v≠[62])
 hneg:Fn Tryz.prog 117 [.g (aS k)] [.g (aS (-k))]
 hX:Fn Tryz.prog 154 [.g (aq x),.d (.v (.int .i64 i)),.g (aS k),.g (.l []::ia none)] [.g (.l (f1.t.map bO)::ia o1),.d (.v (.bool ok1))]
 hY:Fn Tryz.prog 154 [.g (aq y),.d (.v (.int .i64 i)),.g (aS (-k)),.g (.l (f1.t.map bO)::ia o1)] [.g (.l (g.t.map bO)::ia o2),.d (.v (.bool ok2))]
 hi1:Fn Tryz.prog 60 [.d (.v (.int .i64 1))] [.g (aS 1)]
 hi2:Fn Tryz.prog 60 [.d (.v (.int .i64 (-1)))] [.g (aS (-1))]
def jk(i:Int)(p:PP)(w v:List UInt8)(hl:List ST)(x y:ST)(f:FT)(n:Nat)(r:Int):Prop:=Fn Tryz.prog 97 [.g [.v (.bool false),.v (.string (tx w)),.l ((ST.mk true v hl::[x,y]).map aq)],.d (.v (.int .i64 i)),.g (dN p),.g (aM f),.d (.v (.int .i64 (n:Int)))] [.d (.v (.int .i64 r))]
theorem FX{i:Int}{v:List UInt8}{x y:ST}{k:Rat}{f1 g:Ex}{o1 o2:Option Rat}{ok1 ok2:Bool}(H:CmH i v x y k f1 g o1 o2 ok1 ok2)(p:PP)(w:List UInt8)(hl:List ST)(f:FT)(n:Nat)(_hn:n+1≤1000000)(h1:ok1=false):jk i p w v hl x y f n (-1):=by
 obtain⟨hd,hneg,hX,hY,hi1,hi2⟩:=H;unfold jk;have hl0:(ST.mk true v hl::[x,y]).length=3:=rfl;have hg0:(ST.mk true v hl::[x,y])[0]?=some (.mk true v hl):=rfl;have hml:([x,y].map aq).length=2:=rfl;have hl2:[x,y].length=2:=rfl;have hg1:[x,y][0]?=some x:=rfl;have hg2:[x,y][1]?=some y:=rfl;have hdr:((ST.mk true v hl::[x,y]).map aq).drop 1=[x,y].map aq:=rfl;have h60:(60:UInt8).toNat=60:=rfl;have h61:(61:UInt8).toNat=61:=rfl;have h62:(62:UInt8).toNat=62:=rfl;subst h1;rcases hd with ⟨hv,rfl,hov,hv0,m1,m2,m3,m4,m5,m6,m7⟩ | ⟨hv,rfl,hov,hv0,m1,m2,m3,m4,m5,m6,m7⟩ | ⟨hv,rfl,hov,hv0,m1,m2,m3,m4,m5,m6,m7⟩ | ⟨hv,rfl,hov,hv0,m1,m2,m3,m4,m5,m6,m7⟩ | ⟨hv,rfl,hov,hv0,m1,m2,m3,m4,m5,m6,m7⟩
 all_goals
  try rw[hov]at*
  refine Fn.of Tryz.func97 rfl (by kernel_rfl) Tryz.ntmps97 Tryz.results97 rfl fun w0 S0=>?_;refine wa ?_;((try (first | intro K ms hms hK | intro K hK));(first | apply Ch.go | apply Ch.ah);exact rfl;exact rfl;exact Loc.cC 1 rfl rfl rfl rfl (by simp) (cI _));rw[hdr];refine wa ?_;refine c1 hi1 ?_;refine wa ?_
  first | refine c1 hX ?_ | refine c1 hY ?_
  refine wa ?_;exact⟨.d rfl (.inl rfl),trivial⟩
theorem FN{i:Int}{v:List UInt8}{x y:ST}{k:Rat}{f1 g:Ex}{o1 o2:Option Rat}{ok1 ok2:Bool}(H:CmH i v x y k f1 g o1 o2 ok1 ok2)(p:PP)(w:List UInt8)(hl:List ST)(f:FT)(n:Nat)(_hn:n+1≤1000000)(h1:ok1=true)(h2:ok2=false):jk i p w v hl x y f n (-1):=by
 obtain⟨hd,hneg,hX,hY,hi1,hi2⟩:=H;unfold jk;have hl0:(ST.mk true v hl::[x,y]).length=3:=rfl;have hg0:(ST.mk true v hl::[x,y])[0]?=some (.mk true v hl):=rfl;have hml:([x,y].map aq).length=2:=rfl;have hl2:[x,y].length=2:=rfl;have hg1:[x,y][0]?=some x:=rfl;have hg2:[x,y][1]?=some y:=rfl;have hdr:((ST.mk true v hl::[x,y]).map aq).drop 1=[x,y].map aq:=rfl;have h60:(60:UInt8).toNat=60:=rfl;have h61:(61:UInt8).toNat=61:=rfl;have h62:(62:UInt8).toNat=62:=rfl;subst h1 h2;rcases hd with ⟨hv,rfl,hov,hv0,m1,m2,m3,m4,m5,m6,m7⟩ | ⟨hv,rfl,hov,hv0,m1,m2,m3,m4,m5,m6,m7⟩ | ⟨hv,rfl,hov,hv0,m1,m2,m3,m4,m5,m6,m7⟩ | ⟨hv,rfl,hov,hv0,m1,m2,m3,m4,m5,m6,m7⟩ | ⟨hv,rfl,hov,hv0,m1,m2,m3,m4,m5,m6,m7⟩
 all_goals
  try rw[hov]at*
  refine Fn.of Tryz.func97 rfl (by kernel_rfl) Tryz.ntmps97 Tryz.results97 rfl fun w0 S0=>?_;refine wa ?_;((try (first | intro K ms hms hK | intro K hK));(first | apply Ch.go | apply Ch.ah);exact rfl;exact rfl;exact Loc.cC 1 rfl rfl rfl rfl (by simp) (cI _));rw[hdr];refine wa ?_;refine c1 hi1 ?_;refine wa ?_
  first | refine c1 hX ?_ | refine c1 hY ?_
  refine wa ?_;exact⟨.d rfl (.inl rfl),trivial⟩
