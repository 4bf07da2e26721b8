import Derived.Test.YthdkkpocihkgbaaGreatDoorPpI
set_option maxRecDepth 100000
set_option maxHeartbeats 32000000
namespace Go.Proofs.YthdkkpocihkgbaaGreatDoor
open Go.RowKit
attribute [local irreducible] AC Do St
theorem FR{i:Int}{v:List UInt8}{x y:ST}{k:Rat}{f1 g:Ex}{o1 o2:Option Rat}{ok1 ok2:Bool}(H:CmH i v x y k f1 g o1 o2 ok1 ok2)(p:PP)(w:List UInt8)(hl:List ST)(f:FT)(n:Nat)(_hn:n+1≤1000000)(h1:ok1=true)(h2:ok2=true)(a1:f.k=1)(a2:f.a=(n:Int))(a3:n<p.ats.length)(a:At)(hga:p.ats[n]?=some a)(a4:a.op=dh v)(hform:Fn Tryz.prog 155 [.g (gi a.e)] [.d (.v (.bool false))]):jk i p w v hl x y f n (-2):=by
 obtain⟨hd,hneg,hX,hY,hi1,hi2⟩:=H;unfold jk;have hl0:(ST.mk true v hl::[x,y]).length=3:=rfl;have hg0:(ST.mk true v hl::[x,y])[0]?=some (.mk true v hl):=rfl;have hml:([x,y].map aq).length=2:=rfl;have hl2:[x,y].length=2:=rfl;have hg1:[x,y][0]?=some x:=rfl;have hg2:[x,y][1]?=some y:=rfl;have hdr:((ST.mk true v hl::[x,y]).map aq).drop 1=[x,y].map aq:=rfl;have h60:(60:UInt8).toNat=60:=rfl;have h61:(61:UInt8).toNat=61:=rfl;have h62:(62:UInt8).toNat=62:=rfl;subst h1 h2;rcases hd with ⟨hv,rfl,hov,hv0,m1,m2,m3,m4,m5,m6,m7⟩ | ⟨hv,rfl,hov,hv0,m1,m2,m3,m4,m5,m6,m7⟩ | ⟨hv,rfl,hov,hv0,m1,m2,m3,m4,m5,m6,m7⟩ | ⟨hv,rfl,hov,hv0,m1,m2,m3,m4,m5,m6,m7⟩ | ⟨hv,rfl,hov,hv0,m1,m2,m3,m4,m5,m6,m7⟩
 all_goals
  try rw[hov]at a4
  refine Fn.of Tryz.func97 rfl (by kernel_rfl) Tryz.ntmps97 Tryz.results97 rfl fun w0 S0=>?_;refine wa ?_;((try (first | intro K ms hms hK | intro K hK));(first | apply Ch.go | apply Ch.ah);exact rfl;exact rfl;exact Loc.cC 1 rfl rfl rfl rfl (by simp) (cI _));rw[hdr];refine wa ?_;refine c1 hi1 ?_;refine wa ?_
  first | refine c1 hX ?_ | refine c1 hY ?_
  refine wa ?_;exact⟨.d rfl (.inl rfl),trivial⟩
theorem FQ{i:Int}{v:List UInt8}{x y:ST}{k:Rat}{f1 g:Ex}{o1 o2:Option Rat}{ok1 ok2:Bool}(H:CmH i v x y k f1 g o1 o2 ok1 ok2)(p:PP)(w:List UInt8)(hl:List ST)(f:FT)(n:Nat)(_hn:n+1≤1000000)(h1:ok1=true)(h2:ok2=true)(a1:f.k=1)(a2:f.a=(n:Int))(a3:n<p.ats.length)(a:At)(hga:p.ats[n]?=some a)(a4:a.op=dh v)(hform:Fn Tryz.prog 155 [.g (gi a.e)] [.d (.v (.bool true))])(hsame:Fn Tryz.prog 156 [.g (gi a.e),.g (.l (g.t.map bO)::ia o2)] [.d (.v (.bool false))]):jk i p w v hl x y f n (-2):=by
 obtain⟨hd,hneg,hX,hY,hi1,hi2⟩:=H;unfold jk;have hl0:(ST.mk true v hl::[x,y]).length=3:=rfl;have hg0:(ST.mk true v hl::[x,y])[0]?=some (.mk true v hl):=rfl;have hml:([x,y].map aq).length=2:=rfl;have hl2:[x,y].length=2:=rfl;have hg1:[x,y][0]?=some x:=rfl;have hg2:[x,y][1]?=some y:=rfl;have hdr:((ST.mk true v hl::[x,y]).map aq).drop 1=[x,y].map aq:=rfl;have h60:(60:UInt8).toNat=60:=rfl;have h61:(61:UInt8).toNat=61:=rfl;have h62:(62:UInt8).toNat=62:=rfl;subst h1 h2;rcases hd with ⟨hv,rfl,hov,hv0,m1,m2,m3,m4,m5,m6,m7⟩ | ⟨hv,rfl,hov,hv0,m1,m2,m3,m4,m5,m6,m7⟩ | ⟨hv,rfl,hov,hv0,m1,m2,m3,m4,m5,m6,m7⟩ | ⟨hv,rfl,hov,hv0,m1,m2,m3,m4,m5,m6,m7⟩ | ⟨hv,rfl,hov,hv0,m1,m2,m3,m4,m5,m6,m7⟩
 all_goals
  try rw[hov]at a4
  refine Fn.of Tryz.func97 rfl (by kernel_rfl) Tryz.ntmps97 Tryz.results97 rfl fun w0 S0=>?_;refine wa ?_;((try (first | intro K ms hms hK | intro K hK));(first | apply Ch.go | apply Ch.ah);exact rfl;exact rfl;exact Loc.cC 1 rfl rfl rfl rfl (by simp) (cI _));rw[hdr];refine wa ?_;refine c1 hi1 ?_;refine wa ?_
  first | refine c1 hX ?_ | refine c1 hY ?_
  refine wa ?_;exact⟨.d rfl (.inl rfl),trivial⟩
