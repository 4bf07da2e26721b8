import Derived.Deep.RegionHeld
import Derived.Test.YtbbpecfapohlaaaGreatDoorOw
namespace Go.Proofs.YtbbpecfapohlaaaGreatDoor
open Go.RowKit
section
variable {P:Program}{w0:World}{S0:Nat→Prop}{M:List Value}{nt id:Nat}{Q:Exit→AS→Prop}{σ:AS}
end
section
variable {P:Program}{C:Cx}{o:Oper}{σ:AS}
end
section
variable {P:Program}{C:Cx}{o:Oper}{σ:AS}
theorem RD.takeM{S:Nat→Prop}{w:World}{a:Option Addr}{n c:Nat}{xs:List (List D)}(h:RD S w (.slice a n c) (.l xs))(i m:Nat)(hi:i≤xs.length)(him:i≤m)(hm:m≤c):RD S w (.slice a i m) (.l (xs.take i)):=by
 obtain⟨h1,h2,h3,k,css,h4,h5,h6,h7⟩:=h.cells;refine RD.ofCells (k:=k) (css:=css.take i) (by simp;omega) him (by omega) (by simp;omega) (fun j hj=>?_) (fun j hj hj'=>?_) (fun h0=>?_)
 ·rw[List.getElem_take];exact h5 _ (by simp at hj;omega)
 ·rw[List.getElem_take,List.getElem_take];exact h6 j (by simp at hj;omega) (by simp at hj';omega)
 ·obtain⟨b,o,e,hb,hr⟩:=h7 (by omega);refine⟨b,o,e,hb,fun j hj=>?_⟩;rw[List.getElem_take];exact hr j (by simp at hj;omega)
theorem Loc.partHM{T:TypeId}{x y z:Operand}{e k by_:Nat}{xs:List (List D)}{n n':Int}{kd kd':IntKind}(i:Nat)(ho:o.op= .slice T x none (some y) (some z))(hx:ev σ x= .d (.l xs))(hy:ev σ y= .d (.v (.int kd n)))(hz:ev σ z= .d (.v (.int kd' n')))(hn:n=(i:Int))(hn':n'=(i:Int))(hi:i≤xs.length)[h:Sl P T e k by_]:Loc P C o σ (.d (.l (xs.take i))):=
 Loc.quiet fun σ' hl β c w hi'=>by
  have h1:=hl.ra hi' (x:=x) (by rw[ho];simp[Op.operands]);have h2:=hl.ra hi' (x:=y) (by rw[ho];simp[Op.operands]);have h3:=hl.ra hi' (x:=z) (by rw[ho];simp[Op.operands]);rw[hx]at h1;rw[hy]at h2;rw[hz]at h3;have e1:=RA.val h2;have e2:=RA.val h3;have h1:RD _ w (c.eval x) (.l xs):=h1;generalize hu:c.eval x=u at h1;have hsl:∃ a m q,u= .slice a m q:=by cases h1;exact⟨_,_,_,rfl⟩
  obtain⟨a,m,q,rfl⟩:=hsl;obtain⟨hm1,hm2,_⟩:=h1.cells;have ht:P.underlying T=some (.slice (P.elem T)):=by
   have:=h.e.under;unfold Program.elem;rw[this]
  obtain⟨inf,z',hi1,hi2,hi3,hi4⟩:=h.e.info;have he:P.elem T=e:=by
   have h3:=h.e.under;rw[ht]at h3;simpa using h3
  refine⟨.slice a i i,?_,h1.takeM i i hi (Nat.le_refl _) (by omega)⟩;unfold execOp;rw[ho];have hr:=run_slice_hm (P:=P) (w:=w) T a m q ht kd kd' n n' (by omega) (by omega) (by omega);have hsz:(sizeOf (P.elem T)).run P w= .ok k w:=by rw[he];simp[sizeOf,typeInfo,hi1,hi3]
  rw[hsz]at hr;have hfin:sliced a 0 n.toNat n'.toNat k= .slice a i i:=by
   unfold sliced;have:a.map (·.add (0*k))=a:=by
    cases a with
    | none=>rfl
    | some a=>simp[Addr.add]
   rw[this,hn,hn'];simp
  simp only[Result.andThen]at hr;rw[hfin]at hr;simp[hu,e1,e2,run_sliceAt_slice _ _ _ _ _ _ ht,hr]
theorem RD.dropL{S:Nat→Prop}{w:World}{a:Option Addr}{n c k:Nat}{xs:List (List D)}(h:RD S w (.slice a n c) (.l xs))(i:Nat)(hi:i≤xs.length)(hk:∀ x∈xs,x.length=k):RD S w (sliced a i n c k) (.l (xs.drop i)):=by
 obtain⟨h1,h2,h3,k',css,h4,h5,h6,h7⟩:=h.cells;refine RD.ofCells (k:=k) (css:=css.drop i) (by simp;omega) (by omega) (by omega) (by simp;omega) (fun j hj=>?_) (fun j hj hj'=>?_) (fun h0=>?_)
 ·rw[List.getElem_drop];exact hk _ (List.getElem_mem _)
 ·rw[List.getElem_drop,List.getElem_drop];exact h6 _ (by simp at hj;omega) (by simp at hj';omega)
 ·obtain⟨b,o,e,hb,hr⟩:=h7 (by omega);have ek:k'=k:=by
   have e1:=h5 0 (by omega);have e2:=hk _ (List.getElem_mem (show 0<xs.length by omega));omega
  subst ek;refine⟨b,o+i*k',by rw[if_neg (by omega),e];simp[Addr.add],hb,fun j hj=>?_⟩;rw[List.getElem_drop];have:=hr (i+j) (by simp at hj;omega);rw[Nat.add_mul,←Nat.add_assoc]at this;exact this
theorem Loc.tailL{T:TypeId}{x y:Operand}{e k by_:Nat}{xs:List (List D)}{n:Int}{kd:IntKind}(i:Nat)(ho:o.op= .slice T x (some y) none none)(hx:ev σ x= .d (.l xs))(hy:ev σ y= .d (.v (.int kd n)))(hn:n=(i:Int))(hi:i≤xs.length)[h:Sl P T e k by_](hk:∀ x∈xs,x.length=k):Loc P C o σ (.d (.l (xs.drop i))):=
 Loc.two (by rw[ho];simp[Op.operands]) hx (by rw[ho];simp[Op.operands]) hy fun S w β O c h1 h2=>by
  have e1:=RA.val h2;have h1:RD S w (c.eval x) (.l xs):=h1;generalize hu:c.eval x=u at h1;have hsl:∃ a m q,u= .slice a m q:=by cases h1;exact⟨_,_,_,rfl⟩
  obtain⟨a,m,q,rfl⟩:=hsl;have hm:=h1.cells;have ht:P.underlying T=some (.slice (P.elem T)):=by
   have:=h.e.under;unfold Program.elem;rw[this]
  obtain⟨inf,z,hi1,hi2,hi3,hi4⟩:=h.e.info;have he:P.elem T=e:=by
   have h3:=h.e.under;rw[ht]at h3;simpa using h3
  refine⟨sliced a i m q k,?_,h1.dropL i hi hk⟩;unfold execOp;rw[ho];have hr:=run_slice_l (P:=P) (w:=w) T a m q ht kd n (by omega) (by omega);have hsz:(sizeOf (P.elem T)).run P w= .ok k w:=by rw[he];simp[sizeOf,typeInfo,hi1,hi3]
  rw[hsz,hn]at hr;simp only[Result.andThen,Int.toNat_natCast]at hr;rw[←hn]at hr;simp[hu,e1,run_sliceAt_slice _ _ _ _ _ _ ht,hr]
end
theorem St.val{C:Cx}{σ:AS}{a:Act}{w:World}{x:Operand}{v:Value}(hs:St C σ a w)(h:ev σ x= .d (.v v)):a.eval x=v:=by
 obtain⟨β,hi⟩:=hs;have:=hi.ev x;rw[h]at this;exact RA.val this
section
variable {P:Program}{C:Cx}{σ:AS}{ops:Array Oper}{S:World→Prop}{Qc:Exit→AS→Prop}
end
section
variable {P:Program}{C:Cx}{σ:AS}
theorem Chain.sub{ops:Array Oper}{fin:List Inf→Prop}{Q:AS→Prop}{rest:List Oper}(σ':AS)(he:subEnv σ.env σ'.env)(ho:subObj σ.objs σ'.objs)(h:Chain P C ops fin Q none rest σ'):Chain P C ops fin Q none rest σ:= .weak _ (fun _ _ hs=>hs.sub he ho) h
end
section
variable {P:Program}{C:Cx}{o:Oper}{σ:AS}{ρ:Operand→Value}{w:World}
theorem Chain.conv{ops:Array Oper}{fin:List Inf→Prop}{Q:AS→Prop}{rest:List Oper}(id:Nat){x:Value}{e:TypeId}{k:Nat}{xs:List (List D)}(ys:List (List D))(hO:get? σ.objs id=some (rowO x e k xs))(hR:∀ S w,rowR x e k xs S w→rowR x e k ys S w)(h:Chain P C ops fin Q none rest ⟨σ.env,(id,rowO x e k ys)::σ.objs⟩):Chain P C ops fin Q none rest σ:=
 .weak _ (fun a w ⟨β,hi⟩=>by
  obtain⟨hx,h1,_⟩:=hi.obj id _ hO;have h2:=hi.own' id _ hO (rowR x e k ys) (hR _ _ h1) (by rw[hx];exact rowR_stable _ _ _ _);rw[hx]at h2;exact⟨β,h2⟩) h
end
theorem St.of{C:Cx}{σ:AS}{β:Nat→Value}{a:Act}{w:World}(h:Inv C σ β a w):St C σ a w:=⟨β,h⟩
theorem St.inv{C:Cx}{σ:AS}{a:Act}{w:World}(h:St C σ a w):∃ β,Inv C σ β a w:=h
section
variable {P:Program}{C:Cx}{σ:AS}{ops:Array Oper}{S:World→Prop}{Qc:Exit→AS→Prop}
end
end Go.Proofs.YtbbpecfapohlaaaGreatDoor
