import Derived.Test.YthdkkpocihkgbaaGreatDoorTy
import Derived.Test.YthdkkpocihkgbaaGreatDoorOw
set_option maxRecDepth 100000
set_option maxHeartbeats 8000000
namespace Go.Proofs.YthdkkpocihkgbaaGreatDoor
open Go.RowKit
section
variable {P:Program}{C:Cx}{o:Oper}{σ:AS}
theorem Loc.FE{T T':TypeId}{x y:Operand}{k:IntKind}{a b:Int}(r:Bool)(ho:o.op= .binOp .lss T x y T')(hx:ev σ x= .d (.v (.int k a)))(hy:ev σ y= .d (.v (.int k b)))(h:r=decide (a<b)):Loc P C o σ (.d (.v (.bool r))):=by
 subst h;by_cases h:a<b
 ·rw[decide_eq_true h];exact Loc.eb ho hx hy h
 ·rw[decide_eq_false h];exact Loc.eG ho hx hy h
theorem Loc.xt{T T':TypeId}{x y:Operand}{k:IntKind}{a b:Int}(r:Bool)(ho:o.op= .binOp .eql T x y T')(hx:ev σ x= .d (.v (.int k a)))(hy:ev σ y= .d (.v (.int k b)))(h:r=decide (a=b)):Loc P C o σ (.d (.v (.bool r))):=by
 subst h;by_cases h:a=b
 ·rw[decide_eq_true h];exact Loc.ec ho hx hy h
 ·rw[decide_eq_false h];exact Loc.eE ho hx hy h
end
attribute [local irreducible] AC Do St
theorem oD(l:List Bool)(hb:l.length≤1000000000):Fn Tryz.prog 172 [.d (bp l)] [.d (bp (bits (aF l)))]:=by
 refine Fn.of Tryz.func172 rfl (by kernel_rfl) Tryz.ntmps172 Tryz.results172 rfl fun w0 S0=>?_;refine wa ?_;refine AC.loop (X:=Nat) (fun n=>⟨[(0,.d (bp l)),(3,.d (.v (.int .i64 (n:Int))))],[]⟩) (fun n=>n≤l.length∧aF (l.take n)=aF l) (fun n=>n) l.length ⟨Nat.le_refl _,by rw[List.take_length]⟩ ⟨rfl,rfl,trivial⟩ trivial ?_;intro n ⟨hn,hv⟩;cases n with
 | zero=>
   have h0:=rA (Nat.zero_le _) hv (.inl rfl);refine wa ?_;((try (first | intro K ms hms hK | intro K hK));(first | apply Ch.go | apply Ch.ah);exact rfl;exact rfl;exact Loc.sO 0 rfl rfl rfl rfl (Nat.zero_le _));refine wa ?_;rw[h0];exact⟨.d rfl (.inl rfl),trivial⟩
 | succ m=>
   have hg:l[m]?=some l[m]:=List.getElem?_eq_getElem (by omega);have e:((m+1:Nat):Int)-1=(m:Int):=by omega
   have e2:=bY l false (i:=m) (by omega);generalize l[m]=b at hg e2;cases b with
   | false=>
     have hv2:=(qS (n:=m+1) (by omega) hn e2).trans hv;refine wa ?_;rw[e];refine wa ?_;exact⟨m,⟨by omega,hv2⟩,by omega,⟨rfl,by rw[e];rfl,trivial⟩,trivial⟩
   | true=>
     have h0:=rA hn hv (.inr e2);refine wa ?_;rw[e];refine wa ?_;((try (first | intro K ms hms hK | intro K hK));(first | apply Ch.go | apply Ch.ah);exact rfl;exact rfl;exact Loc.sO (m+1) rfl rfl rfl rfl hn);refine wa ?_;rw[h0];exact⟨.d rfl (.inl rfl),trivial⟩
theorem wW(l:List Bool)(k:Nat):(k<l.length∧l[k]?=some true∧fF l k=1)∨(k<l.length∧l[k]?=some false∧fF l k=0)∨(l.length≤k∧l[k]?=none∧fF l k=0):=by
 rcases Nat.lt_or_ge k l.length with h | h
 ·rw[List.getElem?_eq_getElem h,vZ h];cases l[k]
  ·exact .inr (.inl ⟨h,rfl,rfl⟩)
  ·exact .inl ⟨h,rfl,rfl⟩
 ·exact .inr (.inr ⟨h,List.getElem?_eq_none h,tj h⟩)
theorem AD{x y:Int}(h:x=y):some (AV.d (D.v (Value.int .i64 x)))=some (AV.d (D.v (Value.int .i64 y))):=by rw[h]
theorem Er(p q:List Bool)(hp:p.length≤500000000)(hq:q.length≤500000000):Fn Tryz.prog 121 [.d (bp p),.d (bp q)] [.d (bp (bits (aF p+aF q)))]:=by
 have hv:=jz p;have hv2:=jz q;refine Fn.of Tryz.func121 rfl (by kernel_rfl) Tryz.ntmps121 Tryz.results121 rfl fun w0 S0=>?_;refine wa ?_;refine AC.loop (X:=Nat×List Bool×Nat) (fun x=>⟨[(0,.d (bp p)),(1,.d (bp q)),(5,.r 9 x.1),(6,.d (.v (.int .i64 (x.2.2:Int)))),(7,.d (.v (.int .i64 (x.1:Int))))],[(9,.row x.1 4 1 (x.2.1.map fun b=>[.v (fh b)]))]⟩) (fun x=>x.1≤max p.length q.length+1∧(x.1=max p.length q.length+1→x.2.2=0)∧x.2.2≤1∧x.2.1.length=x.1∧aF x.2.1+2^x.1*x.2.2=aF (p.take x.1)+aF (q.take x.1)) (fun x=>max p.length q.length+1-x.1) (0,[],0) ⟨by dsimp only;omega,fun _=>rfl,by dsimp only;omega,rfl,by simp[jv]⟩ ⟨rfl,rfl,rfl,rfl,rfl,trivial⟩ ⟨rfl,trivial⟩ ?_;intro ⟨k,o,c⟩ ⟨hk,hc0,hc,hol,hi⟩;dsimp only at hk hc0 hc hol hi ⊢;have hA:=wW p k;have hB:=wW q k;have hst:∀ (z:Bool) (d:Nat),z.toNat+2*d=c+fF p k+fF q k→aF (o++[z])+2^(k+1)*d=aF (p.take (k+1))+aF (q.take (k+1)):=fun z d h=>yS hol hi h;generalize fF p k=x at hA hst;generalize fF q k=y at hB hst;by_cases hend:p.length≤k∧q.length≤k∧c=0
 ·obtain⟨h1,h2,rfl⟩:=hend;rw[List.take_of_length_le h1,List.take_of_length_le h2,Nat.mul_zero,Nat.add_zero]at hi;refine wa ?_;(first | intro K ms hms hK | intro K hK);refine Ch.br 59 rfl rfl ?_;refine c1 (oD o (by omega)) ?_;refine wa ?_;rw[hi];exact⟨.d rfl (.inl rfl),trivial⟩
 have hlen:(o.map fun b=>[D.v (fh b)]).length=k:=by rw[List.length_map];exact hol
 have hR:∀ n:Nat,n=c+x+y→aF (o++[decide (((n:Int) % 2)=1)])+2^(k+1)*(n / 2)=aF (p.take (k+1))+aF (q.take (k+1)):=fun n hn=>hst _ _ (by
  rw[←hn];rcases Nat.mod_two_eq_zero_or_one n with h | h
  ·rw[decide_eq_false (by omega)];simp;omega
  ·rw[decide_eq_true (by omega)];simp;omega)
 have hol':∀ z:Bool,(o++[z]).length=k+1:=fun z=>by rw[List.length_append,hol];rfl
 have HS:=Lib.hid (And.intro hR hol');clear hst hR hi hol hol' hv hv2;rcases hA with ⟨a1,a2,rfl⟩ | ⟨a1,a2,rfl⟩ | ⟨a1,a2,rfl⟩<;>rcases hB with ⟨b1,b2,rfl⟩ | ⟨b1,b2,rfl⟩ | ⟨b1,b2,rfl⟩
 all_goals try (have hc1:c=1:=by omega)
 all_goals try subst hc1
 all_goals
  refine wa ?_;((try (first | intro K ms hms hK | intro K hK));(first | apply Ch.go | apply Ch.ah);exact rfl;exact rfl;exact Loc.rem rfl rfl rfl (by omega) (by decide));((try (first | intro K ms hms hK | intro K hK));(first | apply Ch.go | apply Ch.ah);exact rfl;exact rfl;exact Loc.xt _ rfl rfl rfl rfl);refine wa ?_;((try (first | intro K ms hms hK | intro K hK));(first | apply Ch.go | apply Ch.ah);exact rfl;exact rfl;exact Loc.quo rfl rfl rfl (by omega) (by decide) (IntWalk.i64_in _ (by omega)));refine wa ?_
  first
   | exact⟨(k+1,o++[decide (((c+1+1:Nat):Int) % 2=1)],(c+1+1) / 2),⟨by dsimp only;omega,fun _=>by dsimp only at* <;>omega,by dsimp only;omega,HS.out.2 _,HS.out.1 (c+1+1) rfl⟩,by dsimp only;omega,⟨rfl,rfl,rfl,AD (by dsimp only;omega),rfl,trivial⟩,⟨by dsimp only;rw[List.map_append];rfl,trivial⟩⟩
   | exact⟨(k+1,o++[decide (((c+1:Nat):Int) % 2=1)],(c+1) / 2),⟨by dsimp only;omega,fun _=>by dsimp only at* <;>omega,by dsimp only;omega,HS.out.2 _,HS.out.1 (c+1) rfl⟩,by dsimp only;omega,⟨rfl,rfl,rfl,AD (by dsimp only;omega),rfl,trivial⟩,⟨by dsimp only;rw[List.map_append];rfl,trivial⟩⟩
   | exact⟨(k+1,o++[decide (((c:Nat):Int) % 2=1)],(c) / 2),⟨by dsimp only;omega,fun _=>by dsimp only at* <;>omega,by dsimp only;omega,HS.out.2 _,HS.out.1 (c) rfl⟩,by dsimp only;omega,⟨rfl,rfl,rfl,AD (by dsimp only;omega),rfl,trivial⟩,⟨by dsimp only;rw[List.map_append];rfl,trivial⟩⟩
   | exact⟨(k+1,o++[decide (((1:Nat):Int) % 2=1)],(1) / 2),⟨by dsimp only;omega,fun _=>by dsimp only at* <;>omega,by dsimp only;omega,HS.out.2 _,HS.out.1 (1) rfl⟩,by dsimp only;omega,⟨rfl,rfl,rfl,AD (by dsimp only;omega),rfl,trivial⟩,⟨by dsimp only;rw[List.map_append];rfl,trivial⟩⟩
