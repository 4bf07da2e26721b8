import Derived.Test.YtbbpecfapohlaaaGreatDoorLm
import Derived.Test.YtbbpecfapohlaaaGreatDoorTy
import Derived.Test.YtbbpecfapohlaaaGreatDoorOw
set_option maxRecDepth 100000
set_option maxHeartbeats 8000000
namespace Go.Proofs.YtbbpecfapohlaaaGreatDoor
open Go.RowKit
section
variable {P:Program}{C:Cx}{o:Oper}{σ:AS}
theorem Loc.eqlB{T T':TypeId}{x y:Operand}{k:IntKind}{a b:Int}(r:Bool)(ho:o.op= .binOp .eql T x y T')(hx:ev σ x= .d (.v (.int k a)))(hy:ev σ y= .d (.v (.int k b)))(h:r=decide (a=b)):Loc P C o σ (.d (.v (.bool r))):=by
 subst h;by_cases h:a=b
 ·rw[decide_eq_true h];exact Loc.eqlT ho hx hy h
 ·rw[decide_eq_false h];exact Loc.eqlF ho hx hy h
end
attribute [local irreducible] AC Do St
theorem cut02(l:List Bool)(hb:l.length≤1000000000):Fn Tryz.prog 213 [.d (enB l)] [.d (enB (bits (bval l)))]:=by
 refine Fn.of Tryz.func213 rfl (by kernel_rfl) Tryz.ntmps213 Tryz.results213 rfl fun w0 S0=>?_;refine wa ?_;refine AC.loop (X:=Nat) (fun n=>⟨[(0,.d (enB l)),(3,.d (.v (.int .i64 (n:Int))))],[]⟩) (fun n=>n≤l.length∧bval (l.take n)=bval l) (fun n=>n) l.length ⟨Nat.le_refl _,by rw[List.take_length]⟩ ⟨rfl,rfl,trivial⟩ trivial ?_;intro n ⟨hn,hv⟩;cases n with
 | zero=>
   have h0:=bits_take (Nat.zero_le _) hv (.inl rfl);refine wa ?_;((try (first | intro K ms hms hK | intro K hK));(first | apply Chain.go | apply Chain.goD);exact rfl;exact rfl;exact Loc.partM 0 rfl rfl rfl rfl (Nat.zero_le _));refine wa ?_;rw[h0];exact⟨.d rfl (.inl rfl),trivial⟩
 | succ m=>
   have hg:l[m]?=some l[m]:=List.getElem?_eq_getElem (by omega);have e:((m+1:Nat):Int)-1=(m:Int):=by omega
   have e2:=getD_in l false (i:=m) (by omega);generalize l[m]=b at hg e2;cases b with
   | false=>
     have hv2:=(bval_take_pred (n:=m+1) (by omega) hn e2).trans hv;refine wa ?_;rw[e];refine wa ?_;exact⟨m,⟨by omega,hv2⟩,by omega,⟨rfl,by rw[e];rfl,trivial⟩,trivial⟩
   | true=>
     have h0:=bits_take hn hv (.inr e2);refine wa ?_;rw[e];refine wa ?_;((try (first | intro K ms hms hK | intro K hK));(first | apply Chain.go | apply Chain.goD);exact rfl;exact rfl;exact Loc.partM (m+1) rfl rfl rfl rfl hn);refine wa ?_;rw[h0];exact⟨.d rfl (.inl rfl),trivial⟩
theorem bitC(l:List Bool)(k:Nat):(k<l.length∧l[k]?=some true∧bitN l k=1)∨(k<l.length∧l[k]?=some false∧bitN l k=0)∨(l.length≤k∧l[k]?=none∧bitN l k=0):=by
 rcases Nat.lt_or_ge k l.length with h | h
 ·rw[List.getElem?_eq_getElem h,bitN_in h];cases l[k]
  ·exact .inr (.inl ⟨h,rfl,rfl⟩)
  ·exact .inl ⟨h,rfl,rfl⟩
 ·exact .inr (.inr ⟨h,List.getElem?_eq_none h,bitN_out h⟩)
theorem ivB{x y:Int}(h:x=y):some (AV.d (D.v (Value.int .i64 x)))=some (AV.d (D.v (Value.int .i64 y))):=by rw[h]
theorem add02(p q:List Bool)(hp:p.length≤500000000)(hq:q.length≤500000000):Fn Tryz.prog 160 [.d (enB p),.d (enB q)] [.d (enB (bits (bval p+bval q)))]:=by
 have hv:=bval_lt p;have hv2:=bval_lt q;refine Fn.of Tryz.func160 rfl (by kernel_rfl) Tryz.ntmps160 Tryz.results160 rfl fun w0 S0=>?_;refine wa ?_;refine AC.loop (X:=Nat×List Bool×Nat) (fun x=>⟨[(0,.d (enB p)),(1,.d (enB q)),(5,.r 9 x.1),(6,.d (.v (.int .i64 (x.2.2:Int)))),(7,.d (.v (.int .i64 (x.1:Int))))],[(9,.row x.1 4 1 (x.2.1.map fun b=>[.v (encB b)]))]⟩) (fun x=>x.1≤max p.length q.length+1∧(x.1=max p.length q.length+1→x.2.2=0)∧x.2.2≤1∧x.2.1.length=x.1∧bval x.2.1+2^x.1*x.2.2=bval (p.take x.1)+bval (q.take x.1)) (fun x=>max p.length q.length+1-x.1) (0,[],0) ⟨by dsimp only;omega,fun _=>rfl,by dsimp only;omega,rfl,by simp[bval_nil]⟩ ⟨rfl,rfl,rfl,rfl,rfl,trivial⟩ ⟨rfl,trivial⟩ ?_;intro ⟨k,o,c⟩ ⟨hk,hc0,hc,hol,hi⟩;dsimp only at hk hc0 hc hol hi ⊢;have hA:=bitC p k;have hB:=bitC q k;have hst:∀ (z:Bool) (d:Nat),z.toNat+2*d=c+bitN p k+bitN q k→bval (o++[z])+2^(k+1)*d=bval (p.take (k+1))+bval (q.take (k+1)):=fun z d h=>addB_step hol hi h;generalize bitN p k=x at hA hst;generalize bitN q k=y at hB hst;by_cases hend:p.length≤k∧q.length≤k∧c=0
 ·obtain⟨h1,h2,rfl⟩:=hend;rw[List.take_of_length_le h1,List.take_of_length_le h2,Nat.mul_zero,Nat.add_zero]at hi;refine wa ?_;(first | intro K ms hms hK | intro K hK);refine Chain.frzVar 59 rfl rfl ?_;refine c1 (cut02 o (by omega)) ?_;refine wa ?_;rw[hi];exact⟨.d rfl (.inl rfl),trivial⟩
 have hlen:(o.map fun b=>[D.v (encB b)]).length=k:=by rw[List.length_map];exact hol
 have hR:∀ n:Nat,n=c+x+y→bval (o++[decide (((n:Int) % 2)=1)])+2^(k+1)*(n / 2)=bval (p.take (k+1))+bval (q.take (k+1)):=fun n hn=>hst _ _ (by
  rw[←hn];rcases Nat.mod_two_eq_zero_or_one n with h | h
  ·rw[decide_eq_false (by omega)];simp;omega
  ·rw[decide_eq_true (by omega)];simp;omega)
 have hol':∀ z:Bool,(o++[z]).length=k+1:=fun z=>by rw[List.length_append,hol];rfl
 have HS:=Lib.hid (And.intro hR hol');clear hst hR hi hol hol' hv hv2;rcases hA with ⟨a1,a2,rfl⟩ | ⟨a1,a2,rfl⟩ | ⟨a1,a2,rfl⟩<;>rcases hB with ⟨b1,b2,rfl⟩ | ⟨b1,b2,rfl⟩ | ⟨b1,b2,rfl⟩
 all_goals try (have hc1:c=1:=by omega)
 all_goals try subst hc1
 all_goals
  refine wa ?_;((try (first | intro K ms hms hK | intro K hK));(first | apply Chain.go | apply Chain.goD);exact rfl;exact rfl;exact Loc.rem rfl rfl rfl (by omega) (by decide));((try (first | intro K ms hms hK | intro K hK));(first | apply Chain.go | apply Chain.goD);exact rfl;exact rfl;exact Loc.eqlB _ rfl rfl rfl rfl);refine wa ?_;((try (first | intro K ms hms hK | intro K hK));(first | apply Chain.go | apply Chain.goD);exact rfl;exact rfl;exact Loc.quo rfl rfl rfl (by omega) (by decide) (IntWalk.i64_in _ (by omega)));refine wa ?_
  first
   | exact⟨(k+1,o++[decide (((c+1+1:Nat):Int) % 2=1)],(c+1+1) / 2),⟨by dsimp only;omega,fun _=>by dsimp only at* <;>omega,by dsimp only;omega,HS.out.2 _,HS.out.1 (c+1+1) rfl⟩,by dsimp only;omega,⟨rfl,rfl,rfl,ivB (by dsimp only;omega),rfl,trivial⟩,⟨by dsimp only;rw[List.map_append];rfl,trivial⟩⟩
   | exact⟨(k+1,o++[decide (((c+1:Nat):Int) % 2=1)],(c+1) / 2),⟨by dsimp only;omega,fun _=>by dsimp only at* <;>omega,by dsimp only;omega,HS.out.2 _,HS.out.1 (c+1) rfl⟩,by dsimp only;omega,⟨rfl,rfl,rfl,ivB (by dsimp only;omega),rfl,trivial⟩,⟨by dsimp only;rw[List.map_append];rfl,trivial⟩⟩
   | exact⟨(k+1,o++[decide (((c:Nat):Int) % 2=1)],(c) / 2),⟨by dsimp only;omega,fun _=>by dsimp only at* <;>omega,by dsimp only;omega,HS.out.2 _,HS.out.1 (c) rfl⟩,by dsimp only;omega,⟨rfl,rfl,rfl,ivB (by dsimp only;omega),rfl,trivial⟩,⟨by dsimp only;rw[List.map_append];rfl,trivial⟩⟩
   | exact⟨(k+1,o++[decide (((1:Nat):Int) % 2=1)],(1) / 2),⟨by dsimp only;omega,fun _=>by dsimp only at* <;>omega,by dsimp only;omega,HS.out.2 _,HS.out.1 (1) rfl⟩,by dsimp only;omega,⟨rfl,rfl,rfl,ivB (by dsimp only;omega),rfl,trivial⟩,⟨by dsimp only;rw[List.map_append];rfl,trivial⟩⟩
end Go.Proofs.YtbbpecfapohlaaaGreatDoor
