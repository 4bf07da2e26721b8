import Derived.Test.YthdkkpocihkgbaaGreatDoorPrS
set_option maxRecDepth 100000
set_option maxHeartbeats 8000000
namespace Go.Proofs.YthdkkpocihkgbaaGreatDoor
open Go.RowKit
attribute [local irreducible] AC Do St
theorem Loc.Dy{P:Program}{C:Cx}{o:Oper}{σ:AS}{T T':TypeId}{x y:Operand}{k:IntKind}{a b:Int}(ho:o.op= .binOp .add T x y T')(hx:ev σ x= .d (.v (.int k a)))(hy:ev σ y= .d (.v (.int k b))):Loc P C o σ (.d (.v (.int k (k.wrap (a+b))))):=
 Loc.bin ho hx hy (fun w=>by cases k<;>simp[binOp,Op.intArith]) rfl
theorem pS(b:Nat)(i:Int)(x:Value)(bad:Bool)(w:List UInt8):FnO Tryz.prog 195 (fun _=>True) (fS b i x bad) [.d (.v (aT b 0)),.d (.v (.string (tx w)))] (fun post res=>post=fS b i x bad∧res=[.d (.v (.int .i64 (ey i w).1)),.d (.v (.bool (ey i w).2))]):=by
 refine FnO.of Tryz.func195 rfl (by kernel_rfl) Tryz.ntmps195 Tryz.results195 rfl rfl fun w0 S0 vs hS hv hKW=>⟨_,fun t v h=> .inl h,?_⟩
 clear hv;cases w with
 | nil=>
   have hl0:([]:List UInt8).length=0:=rfl;refine wp ?_;exact cq rfl ⟨.d rfl (.inl rfl),.d rfl (.inl rfl),trivial⟩
 | cons c t=>
 have hl:(c::t).length=t.length+1:=List.length_cons ..;have hc0:(c::t)[0]?=some c:=rfl;have hcb:=UInt8.toNat_lt c;have hbad:∀ (h:t.length<1∨6<t.length∨(c.toNat≠120∧c.toNat≠121)∨(t.head?=some 48∧1<t.length)),ey i (c::t)=(0,false):=fun h=>by
  show (if _ then _ else _)=_;rw[if_pos h]
 by_cases k1:t.length<1
 ·rw[hbad (.inl k1)];refine wp ?_;exact cq rfl ⟨.d rfl (.inl rfl),.d rfl (.inl rfl),trivial⟩
 by_cases k2:6<t.length
 ·rw[hbad (.inr (.inl k2))];refine wp ?_;exact cq rfl ⟨.d rfl (.inl rfl),.d rfl (.inl rfl),trivial⟩
 by_cases k3:c.toNat≠120∧c.toNat≠121
 ·rw[hbad (.inr (.inr (.inl k3)))];obtain⟨g1,g2⟩:=k3;refine wp ?_;exact cq rfl ⟨.d rfl (.inl rfl),.d rfl (.inl rfl),trivial⟩
 obtain⟨d,r,rfl⟩:∃ d r,t=d::r:=by
  cases t with
  | nil=>exact absurd (by simp) k1
  | cons d r=>exact⟨d,r,rfl⟩
 have hd1:(c::d::r)[1]?=some d:=rfl;have hdb:=UInt8.toNat_lt d;have hl2:(d::r).length=r.length+1:=List.length_cons ..;have e48:(d=48)=(d.toNat=48):=propext ⟨fun h=>by rw[h];rfl,fun h=>UInt8.toNat_inj.1 h⟩;have k4:c.toNat=120∨c.toNat=121:=by omega
 by_cases k5:d.toNat=48∧1<(d::r).length
 ·rw[hbad (.inr (.inr (.inr ⟨by rw[List.head?_cons,Option.some.injEq,e48];exact k5.1,k5.2⟩)))];obtain⟨g1,g2⟩:=k5;rcases k4 with k4 | k4
  all_goals
   refine wp ?_;exact cq rfl ⟨.d rfl (.inl rfl),.d rfl (.inl rfl),trivial⟩
 have hV:ey i (c::d::r)=if ∀x∈d::r,bD x then(if c.toNat=121 then(IntKind.i64.wrap (i+(aR 0 (d::r):Int)),true)else((aR 0 (d::r):Int),decide ((aR 0 (d::r):Int)<i)))else(0,false):=by
  show (if _ then _ else _)=_;rw[if_neg (fun h=>by
   rcases h with h | h | h | ⟨h,h'⟩
   ·exact k1 h
   ·exact k2 h
   ·exact k3 h
   ·rw[List.head?_cons,Option.some.injEq,e48]at h;exact k5 ⟨h,h'⟩)]
 have hlen:(d::r).length≤6:=by omega
 clear hbad;rw[hV];have ht:(c::d::r).drop 1=d::r:=rfl;generalize hw:c::d::r=w at*;generalize hz:d::r=t at*;have h1w:1≤w.length:=by omega
 have loop:∀ j,10^(t.take j).length≤10^6:=fun j=>Nat.pow_le_pow_right (by decide) (by rw[List.length_take];omega);by_cases k6:d.toNat=48
 all_goals
  rcases k4 with k4 | k4
  all_goals
   refine wp ?_;((try (first | intro K ms hms hK | intro K hK));(first | apply Ch.go | apply Ch.ah);exact rfl;exact rfl;exact Loc.eU 1 rfl rfl rfl rfl h1w (by kernel_rfl));rw[ht];(first | intro K ms hms hK | intro K hK | skip);refine Ch.yU rfl rfl rfl rfl (by kernel_rfl) rfl fun b2=>?_;refine wp ?_;refine AC.loop (X:=Nat) (fun j=>⟨[(0,.d (.v (aT b 0))),(1,.d (.v (.string (tx w)))),(6,.d (.v (.int .i64 ((aR 0 (t.take j):Nat):Int)))),(39,.d (.v (aT b2 0)))],[(39,jf b2 (tx t) j),(171,pb b i x bad)]⟩) (fun j=>j≤t.length∧∀ y∈t.take j,bD y) (fun j=>t.length-j) 0 ⟨Nat.zero_le _,by simp⟩ ⟨rfl,rfl,rfl,rfl,trivial⟩ ⟨rfl,rfl,trivial⟩ ?_;intro j ⟨hj,hdg⟩;dsimp only;have hvl:=mg (t.take j) hdg 0;have hp10:=loop j;refine wp ?_;by_cases h1:j<t.length
   ·obtain⟨e,he⟩:∃ e,t[j]?=some e:=⟨_,List.getElem?_eq_getElem h1⟩
    have htk:=lz he 0;have hcl:=e.toNat_lt;((try (first | intro K ms hms hK | intro K hK));(first | apply Ch.ef | apply Ch.bU);exact rfl;exact rfl;exact Do.next (id:=39) (pos:=j) rfl rfl rfl (by rw[aB];exact h1);exact rfl;exact rfl);by_cases h2:e.toNat<128
    ·rw[sa he h2];dsimp only;by_cases h3:bD e
     ·have hd2:∀ y∈t.take (j+1),bD y:=fun y hy=>by
       rw[List.take_succ_eq_append_getElem h1,List.mem_append,List.mem_singleton]at hy;rcases hy with hy | hy
       ·exact hdg y hy
       ·obtain⟨_,h5⟩:=List.getElem?_eq_some_iff.1 he;rw[hy,h5];exact h3
      unfold bD at h3;refine wp ?_;have hn2:(10:Int)*((aR 0 (t.take j):Nat):Int)+((e.toNat:Int)-48)=((aR 0 (t.take (j+1)):Nat):Int):=by rw[htk];omega
      exact⟨j+1,⟨h1,hd2⟩,by omega,⟨rfl,rfl,by dsimp only;rw[←hn2];rfl,rfl,trivial⟩,⟨rfl,rfl,trivial⟩⟩
     ·have hr:¬ ∀y∈t,bD y:=fun h=>h3 (h e (List.mem_of_getElem? he));unfold bD at h3;by_cases h4:e.toNat<48
      all_goals
       refine wp ?_;rw[if_neg hr];exact cq rfl ⟨.d rfl (.inl rfl),.d rfl (.inl rfl),trivial⟩
    ·have h3:=tX he h2;have hr:¬ ∀y∈t,bD y:=fun h=>by
      have:=h e (List.mem_of_getElem? he);unfold bD at this;omega
     generalize Utf8.decode (tx t) j=q at h3;refine wp ?_;rw[if_neg hr];exact cq rfl ⟨.d rfl (.inl rfl),.d rfl (.inl rfl),trivial⟩
   ·obtain rfl:j=t.length:=by omega
    rw[List.take_length]at hdg hvl ⊢;((try (first | intro K ms hms hK | intro K hK));(first | apply Ch.go | apply Ch.ah);exact rfl;exact rfl;exact Loc.wm (id:=39) rfl rfl rfl (by rw[aB];omega));by_cases h6:((aR 0 t:Nat):Int)<i
    all_goals
     first
      | (refine wp ?_
         ((try (first | intro K ms hms hK | intro K hK));(first | apply Ch.go | apply Ch.ah);exact rfl;exact rfl;exact Loc.Dy rfl rfl rfl);refine wp ?_;rw[if_pos hdg,if_pos k4];exact cq rfl ⟨.d rfl (.inl rfl),.d rfl (.inl rfl),trivial⟩)
      | (refine wp ?_
         rw[if_pos hdg,if_neg (by omega),show decide ((aR 0 t:Int)<i)=_ by first | exact decide_eq_true h6 | exact decide_eq_false h6];exact cq rfl ⟨.d rfl (.inl rfl),.d rfl (.inl rfl),trivial⟩)
