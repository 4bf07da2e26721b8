import Derived.Test.YthdkkpocihkgbaaGreatDoorK3
import Derived.Test.YthdkkpocihkgbaaGreatDoorPrO
import Derived.Test.YthdkkpocihkgbaaGreatDoorPrH
set_option maxRecDepth 100000
set_option maxHeartbeats 4000000
namespace Go.Proofs.YthdkkpocihkgbaaGreatDoor
open Go.RowKit
section
variable {P:Program}{C:Cx}{o:Oper}{σ:AS}
theorem Loc.strLenL{T:TypeId}{x:Operand}{l:List UInt8}(ho:o.op= .call {callee:= .builtin .len,args:= #[x],argTypes:= #[T] })(hx:ev σ x= .d (.v (.string (tx l))))(hT:P.underlying T=some .string):Loc P C o σ (.d (.v (.int .i64 (l.length:Int)))):=by
 have:=Loc.strLen (C:=C) ho hx hT;rwa[tx_size]at this
theorem Loc.strAtL{T:TypeId}{x y:Operand}{l:List UInt8}{c:UInt8}{n:Int}{kd:IntKind}{i:Nat}(ho:o.op= .index T x y)(hx:ev σ x= .d (.v (.string (tx l))))(hy:ev σ y= .d (.v (.int kd n)))(hn:n=(i:Int))(hi:l[i]?=some c)(hT:P.underlying T=some .string):Loc P C o σ (.d (.v (.int .u8 (c.toNat:Int)))):=Loc.strAt i ho hx hy hn hi hT
theorem Loc.strEqT{T T':TypeId}{x y:Operand}{l m:List UInt8}(ho:o.op= .binOp .eql T x y T')(hx:ev σ x= .d (.v (.string (tx l))))(hy:ev σ y= .d (.v (.string (tx m))))(h:l=m):Loc P C o σ (.d (.v (.bool true))):=Loc.strEq ho hx hy (by subst h;simp)
theorem Loc.strEqF{T T':TypeId}{x y:Operand}{l m:List UInt8}(ho:o.op= .binOp .eql T x y T')(hx:ev σ x= .d (.v (.string (tx l))))(hy:ev σ y= .d (.v (.string (tx m))))(h:l≠m):Loc P C o σ (.d (.v (.bool false))):=Loc.strEq ho hx hy (by rw[tx_list,tx_list];simpa using h)
theorem Loc.strNxB{T T':TypeId}{x y:Operand}{l m:List UInt8}{r:Bool}(ho:o.op= .binOp .neq T x y T')(hx:ev σ x= .d (.v (.string (tx l))))(hy:ev σ y= .d (.v (.string (tx m))))(hr:decide (l≠m)=r):Loc P C o σ (.d (.v (.bool r))):=
 Loc.two (by rw[ho];simp[Op.operands]) hx (by rw[ho];simp[Op.operands]) hy fun S w β O a h1 h2=>by
  refine⟨.bool r,?_,.mk rfl⟩;unfold execOp;rw[ho];have e1:=RA.val h1;have e2:=RA.val h2;have hg:(eqGuard .neq T x y (.string (tx l)) (.string (tx m))).run P w= .ok () w:=by
   unfold eqGuard;simp
  have hb:((tx l).toList==(tx m).toList)=!r:=by
   rw[tx_list,tx_list,←hr];by_cases h:l=m<;>simp[h]
  simp[e1,e2,hg,binOp,Op.stringOp,hb]
theorem Loc.strNxT{T T':TypeId}{x y:Operand}{l m:List UInt8}(ho:o.op= .binOp .neq T x y T')(hx:ev σ x= .d (.v (.string (tx l))))(hy:ev σ y= .d (.v (.string (tx m))))(h:l≠m):Loc P C o σ (.d (.v (.bool true))):=Loc.strNxB ho hx hy (decide_eq_true h)
theorem Loc.strNxF{T T':TypeId}{x y:Operand}{l m:List UInt8}(ho:o.op= .binOp .neq T x y T')(hx:ev σ x= .d (.v (.string (tx l))))(hy:ev σ y= .d (.v (.string (tx m))))(h:l=m):Loc P C o σ (.d (.v (.bool false))):=Loc.strNxB ho hx hy (decide_eq_false fun e=>e h)
end
section
variable {P:Program}{C:Cx}{o:Oper}{σ:AS}
theorem Inv.frTr{β:Nat→Value}{a:Act}{w w':World}(hi:Inv C σ β a w){pre:List (Value×Rel)}{is:List Nat}(hl:is.length=pre.length)(hO:∀ j (h:j<pre.length) (h':j<is.length),get? σ.objs is[j]=some (.own pre[j].1 pre[j].2))(h:FrO (pre.map (·.1)) w w'):FrO C.m C.w0 w':=by
 obtain⟨h1,h2,h3,h4,h5⟩:=h;refine⟨h1.trans hi.os,h2.trans hi.tape,h3.trans hi.output,Nat.le_trans hi.size h4,fun b hb hne=>?_⟩;refine(h5 b (Nat.lt_of_lt_of_le hb hi.size) fun x hx e=>?_).trans (hi.fr b hb (by rintro ⟨x,hx,e⟩;exact hne x hx e));obtain⟨y,hy,rfl⟩:=List.mem_map.1 hx;obtain⟨j,hj,rfl⟩:=List.getElem_of_mem hy;have h6:=hO j hj (by omega);have h7:=(hi.obj _ _ h6).1;rcases (hi.own _ _ b h6 (by rw[h7];exact e)).1 with ⟨z,hz,e2⟩ | h8
 ·exact hne z hz e2
 ·omega
theorem Do.callO{f:FuncId}{K:World→Prop}{pre post:List (Value×Rel)}{args res:List DV}{xs:Array Operand}{ts:Array TypeId}{d:Nat}(is:List Nat)(hF:FnO P f K pre args (fun q r=>q=post∧r=res))(ho:o.op= .call {callee:= .value (.func f),args:=xs,argTypes:=ts })(hd:o.dst=some d)
  (hn:is.Nodup) (hl:is.length=pre.length) (hl2:post.length=pre.length) (hO:∀ j (h:j<pre.length) (h':j<is.length),get? σ.objs is[j]=some (.own pre[j].1 pre[j].2)) (ha:argsOK σ xs.toList args) (hKw:∀ w',FrO C.m C.w0 w'→K w'):Do P C o σ (resAV res) ⟨is,[],ownsAt is post,none⟩:=by
 intro σ' hlk hdst a w K' Q' ⟨β,hi⟩ hK;have hO':∀ j (h:j<pre.length) (h':j<is.length),get? σ'.objs is[j]=some (.own pre[j].1 pre[j].2):=fun j h h'=>by rw[hlk.rd _ (List.getElem_mem h')];exact hO j h h'
 unfold Oper.wp;rw[exec_call hF.body ho rfl];have h1:=argsOK_out (σ:=σ) hi (fun x hx=>hlk.ra hi (by rw[ho];simp only[Op.operands,Call.operands];simp at hx ⊢;exact .inr hx)) ha;have hβ:∀ j (h:j<pre.length) (h':j<is.length),β is[j]=pre[j].1:=fun j h1 h2=>(hi.obj _ _ (hO' j h1 h2)).1;refine(hF.run (Dat C β σ'.objs w) w _ (fun w' hf=>hKw w' (hi.frTr hl hO' hf)) (fun b hb=>hb.2.1) ⟨fun i h=>(hi.obj _ _ (hO' i h (by omega))).2.1,fun i h=>(hi.obj _ _ (hO' i h (by omega))).2.2,fun i h b hb=>?_,fun i j h h' b q1 q2=>?_⟩ h1).mono ?_
 ·have hb':blk (β (is[i]'(by omega)))=some b:=by rw[hβ i h (by omega)];exact hb
  exact⟨(hi.own _ _ b (hO' i h (by omega)) hb').2,fun hD=>hD.2.2 _ _ (hO' i h (by omega)) hb'⟩
 ·have:=hi.dis _ _ _ _ b (hO' i h (by omega)) (hO' j h' (by omega)) (by rw[hβ i h (by omega)];exact q1) (by rw[hβ j h' (by omega)];exact q2);exact(List.getElem_inj hn).1 this
 ·rintro ev w' ⟨_,_,u,⟨rfl,rfl⟩,p2,rfl,p3,p4,p5,p6,p7,p8,p9,p10⟩;obtain⟨h5,h6⟩:=hi.updN is pre _ hn hl p2 hO' p3 p4 p5 p6 p7 p8 p9;have h7:=h5.put (some d) (fun t ht=>by cases ht;exact dstOK.out hdst d hd) (resAV_sound (xs:=_) (RA.same (w':=w') p10 fun b hb=>⟨h6 b hb,rfl⟩));rw[hd]at hK ⊢;exact hK _ w' ⟨_,h7⟩
end
attribute [local irreducible] AC Do St
theorem wp{p q:Prop}(k:q)(hs:Wk q→p:=by
  intro k
  try (first | intro K ms hms hK | intro K hK)
  repeat (first
   | refine Chain.no rfl rfl ?_
   | refine Chain.noD rfl rfl ?_
   | ((first | apply Chain.go | apply Chain.goD);exact rfl;exact rfl;first
     | exact Loc.move (v:= .d _) rfl rfl
     | exact Loc.assign (v:= .d _) rfl rfl
     | exact Loc.chkV rfl rfl
     | exact Loc.fieldV rfl rfl
     | exact Loc.lenV rfl rfl
     | exact Loc.loadB1 (id:=107) rfl rfl rfl rfl
     | exact Loc.loadB1 (id:=124) rfl rfl rfl rfl
     | exact Loc.loadB1 (id:=171) rfl rfl rfl rfl
     | exact Loc.loadB1 (id:=205) rfl rfl rfl rfl
     | exact Loc.loadB1 (id:=215) rfl rfl rfl rfl
     | exact Loc.loadB1 (id:=11) rfl rfl rfl rfl
     | exact Loc.loadP1 rfl rfl rfl rfl
     | exact Loc.loadQ1 rfl rfl rfl
     | exact Loc.fieldP rfl rfl rfl
     | exact Loc.fieldQ rfl rfl
     | exact Loc.pickT (v:= .d _) rfl rfl rfl
     | exact Loc.pickF (v:= .d _) rfl rfl rfl
     | exact Loc.loadPn rfl rfl rfl rfl (by kernel_rfl)
     | exact Loc.loadQw rfl rfl rfl
     | exact Loc.loadQn rfl rfl rfl rfl
     | exact Loc.idxM rfl rfl rfl rfl (by assumption) rfl
     | exact Loc.lenM rfl rfl
     | exact Loc.lenN rfl rfl
     | exact Loc.lenR rfl rfl rfl
     | exact Loc.len rfl rfl
     | exact Loc.lssT rfl rfl rfl (by omega)
     | exact Loc.lssF rfl rfl rfl (by omega)
     | exact Loc.eqlT rfl rfl rfl (by omega)
     | exact Loc.eqlF rfl rfl rfl (by omega)
     | exact Loc.neqT rfl rfl rfl (by omega)
     | exact Loc.neqF rfl rfl rfl (by omega)
     | exact Loc.gtrT rfl rfl rfl (by omega)
     | exact Loc.gtrF rfl rfl rfl (by omega)
     | exact Loc.add rfl rfl rfl (IntWalk.i64_in _ (by omega))
     | exact Loc.sub rfl rfl rfl (IntWalk.i64_in _ (by omega))
     | exact Loc.notT rfl rfl
     | exact Loc.notF rfl rfl
     | exact Loc.fieldE rfl rfl rfl
     | exact Loc.loadE1 rfl rfl rfl (by assumption) rfl
     | exact Loc.idxR rfl rfl rfl rfl rfl (by omega) rfl
     | exact Loc.move (v:= .g _) rfl rfl
     | exact Loc.move (v:= .p _ _) rfl rfl
     | exact Loc.move (v:= .r _ _) rfl rfl
     | exact Loc.move (v:= .t _) rfl rfl
     | exact Loc.assign (v:= .g _) rfl rfl
     | exact Loc.assign (v:= .r _ _) rfl rfl
     | exact Loc.assign (v:= .p _ _) rfl rfl
     | exact Loc.extract (v:= .d _) rfl rfl rfl rfl
     | exact Loc.extract (v:= .g _) rfl rfl rfl rfl
     | exact Loc.pickT (v:= .g _) rfl rfl rfl
     | exact Loc.pickF (v:= .g _) rfl rfl rfl
     | exact Loc.move (v:= .un) rfl rfl
     | exact Loc.build rfl rfl rfl rfl
     | exact Loc.litP rfl rfl rfl rfl rfl rfl rfl
     | exact Loc.sub rfl rfl rfl (wrap_i32 (by omega) (by omega))
     | exact Loc.mul rfl rfl rfl (IntWalk.i64_in _ (by omega))
     | exact Loc.sub rfl rfl rfl (u8w (by omega) (by omega))
     | exact Loc.conv rfl rfl (IntWalk.i64_in _ (by omega))
     | exact Loc.strLenL rfl rfl (by kernel_rfl)
     | exact Loc.strAtL rfl rfl rfl rfl (by assumption) (by kernel_rfl)
     | exact Loc.strEqT rfl rfl rfl (by first | assumption | exact rfl)
     | exact Loc.strEqF rfl rfl rfl (by first | assumption | decide)
     | exact Loc.strNxT rfl rfl rfl (by first | assumption | decide)
     | exact Loc.strNxF rfl rfl rfl (by first | assumption | exact rfl)
     | exact Loc.eqB rfl rfl rfl (by kernel_rfl) rfl
     | exact Loc.neB rfl rfl rfl (by kernel_rfl) rfl
     | (focus (refine Loc.callD (by assumption) rfl ?_;(repeat (first | exact trivial | refine⟨.inl rfl,?_⟩ | refine⟨.inr rfl,?_⟩));done))
     | (focus (refine Loc.callG (by assumption) rfl ?_;(repeat (first | exact trivial | refine⟨.inl rfl,?_⟩ | refine⟨.inr rfl,?_⟩));done))
     | (focus (refine Loc.callT (by assumption) rfl ?_;(repeat (first | exact trivial | refine⟨.inl rfl,?_⟩ | refine⟨.inr rfl,?_⟩));done))
     | (focus (refine Loc.callWD (by assumption) rfl ?_ (kHere KSt.st (by assumption) rfl);(repeat (first | exact trivial | refine⟨.inl rfl,?_⟩ | refine⟨.inr rfl,?_⟩));done))
     | (focus (refine Loc.callWG (by assumption) rfl ?_ (kHere KSt.st (by assumption) rfl);(repeat (first | exact trivial | refine⟨.inl rfl,?_⟩ | refine⟨.inr rfl,?_⟩));done))
     | (focus (refine Loc.callWT (by assumption) rfl ?_ (kHere KSt.st (by assumption) rfl);(repeat (first | exact trivial | refine⟨.inl rfl,?_⟩ | refine⟨.inr rfl,?_⟩));done)))
   | refine Chain.nil0 (hK _ ?_)
   | ((first | apply Chain.st | apply Chain.stD);exact rfl;exact rfl;(first
     | exact Do.storeB (id:=107) rfl rfl rfl rfl rfl rfl rfl rfl
     | exact Do.storeB (id:=124) rfl rfl rfl rfl rfl rfl rfl rfl
     | exact Do.storeB (id:=171) rfl rfl rfl rfl rfl rfl rfl rfl
     | exact Do.storeB (id:=205) rfl rfl rfl rfl rfl rfl rfl rfl
     | exact Do.storeB (id:=215) rfl rfl rfl rfl rfl rfl rfl rfl
     | exact Do.storeB (id:=11) rfl rfl rfl rfl rfl rfl rfl rfl
     | exact Do.storeP rfl rfl rfl rfl .g rfl rfl rfl
     | exact Do.storeP rfl rfl rfl rfl .d rfl rfl rfl
     | exact Do.storeP rfl rfl rfl rfl (.r rfl) rfl rfl rfl);exact rfl;exact rfl)
   | ((first | apply Chain.ef | apply Chain.efD);exact rfl;exact rfl;(first
     | exact Do.alloc rfl rfl rfl
     | exact Do.box rfl rfl rfl .g rfl
     | exact Do.box rfl rfl rfl .d rfl
     | exact Do.lit0 rfl rfl
     | exact Do.append1 rfl rfl rfl rfl rfl rfl (by first | omega | (simp;omega))
     | exact Do.appendN1 rfl rfl rfl rfl rfl rfl);exact rfl;exact rfl)
   | refine Chain.nilD (by rw[hms];kernel_rfl) (hK _ ?_)
   | refine Chain.noN rfl rfl ?_
   | refine AC.seq ?_
   | (refine AC.reg (by decide+kernel) ?_;intro K hK)
   | (refine AC.regG (by decide+kernel) ?_;intro K hK)
   | (refine AC.drw (by kernel_rfl) (by decide+kernel) ?_;intro K ms hms hK)
   | (refine AC.drwG (by kernel_rfl) (by decide+kernel) ?_;intro K ms hms hK)
   | refine AC.condT rfl ?_
   | refine AC.condF rfl ?_
   | refine AC.block ?_
   | refine AC.exit ?_
   | refine AC.ret ?_
   | refine AC.skip ?_)
  first
   | exact k.out
   | (revert K;exact k.out)
   | (revert K ms;exact k.out)):p:=hs ⟨k⟩
theorem cO{p q r:Prop}(h:r)(k:q)(hs:Wk r→Wk q→p:=by
  intro h k
  try (first | intro K ms hms hK | intro K hK)
  (first | apply Chain.ef | apply Chain.efD);exact rfl;exact rfl
  focus
   first
    | (refine Do.callO [205] h.out rfl rfl (by decide) rfl rfl (rp_get rfl) ?_ (by assumption);(repeat (first | exact trivial | refine⟨.inl rfl,?_⟩ | refine⟨.inr rfl,?_⟩));done)
    | (refine Do.callO [107] h.out rfl rfl (by decide) rfl rfl (rp_get rfl) ?_ (by assumption);(repeat (first | exact trivial | refine⟨.inl rfl,?_⟩ | refine⟨.inr rfl,?_⟩));done)
    | (refine Do.callO [124] h.out rfl rfl (by decide) rfl rfl (rp_get rfl) ?_ (by assumption);(repeat (first | exact trivial | refine⟨.inl rfl,?_⟩ | refine⟨.inr rfl,?_⟩));done)
    | (refine Do.callO [171] h.out rfl rfl (by decide) rfl rfl (rp_get rfl) ?_ (by assumption);(repeat (first | exact trivial | refine⟨.inl rfl,?_⟩ | refine⟨.inr rfl,?_⟩));done)
    | (refine Do.callO [11] h.out rfl rfl (by decide) rfl rfl (rp_get rfl) ?_ (by assumption);(repeat (first | exact trivial | refine⟨.inl rfl,?_⟩ | refine⟨.inr rfl,?_⟩));done)
    | (refine Do.callO [215] h.out rfl rfl (by decide) rfl rfl (rp_get rfl) ?_ (by assumption);(repeat (first | exact trivial | refine⟨.inl rfl,?_⟩ | refine⟨.inr rfl,?_⟩));done)
    | (refine Do.callO [36] h.out rfl rfl (by decide) rfl rfl (rp_get rfl) ?_ (by assumption);(repeat (first | exact trivial | refine⟨.inl rfl,?_⟩ | refine⟨.inr rfl,?_⟩));done)
  exact rfl;exact rfl
  first
   | exact k.out
   | (revert K;exact k.out)
   | (revert K ms;exact k.out)):p:=hs ⟨h⟩ ⟨k⟩
def rpC(i:Int)(x:Value)(bad:Bool):List D:=[.v (.int .i64 i),.v x,.v (.bool bad)]
def rpR(b:Nat)(i:Int)(x:Value)(bad:Bool):List (Value×Rel):=[(ptv b 0,boxR b 196 (rpC i x bad))]
def rpO(b:Nat)(i:Int)(x:Value)(bad:Bool):AO:=boxO b 196 (rpC i x bad)
theorem rp_get{b:Nat}{i:Int}{x:Value}{bad:Bool}{id:Nat}{O:List (Nat×AO)}(h0:get? O id=some (rpO b i x bad)):∀ j (_:j<(rpR b i x bad).length) (_:j<[id].length),get? O [id][j]=some (.own (rpR b i x bad)[j].1 (rpR b i x bad)[j].2):=fun j h _=>by
 match j,h with
 | 0,_=>exact h0
 | j+1,h=>exact absurd h (by simp[rpR])
theorem rp_ret{P:Program}{σ:AS}{rs:List ResultVar}{nt b:Nat}{i:Int}{x:Value}{bad:Bool}{r:List DV}(h0:get? σ.objs (nt+100+0)=some (rpO b i x bad))(hr:ressX P σ rs r):∃ post res,(post=rpR b i x bad∧res=r)∧post.length=1∧ressX P σ rs res∧∀ j (h:j<post.length),get? σ.objs (nt+100+j)=some (.own post[j].1 post[j].2):=
 ⟨_,_,⟨rfl,rfl⟩,rfl,hr,fun j h=>by
  match j,h with
  | 0,_=>exact h0
  | j+1,h=>exact absurd h (by simp[rpR])⟩
theorem rpFail(b:Nat)(i:Int)(x:Value)(bad:Bool):FnO Tryz.prog 147 (fun _=>True) (rpR b i x bad) [.d (.v (ptv b 0))] (fun post res=>post=rpR b i x true∧res=[.g (enE ⟨[],0⟩)]):=by
 refine FnO.of Tryz.func147 rfl (by kernel_rfl) Tryz.ntmps147 Tryz.results147 rfl rfl fun w0 S0 vs hS hv hKW=>⟨_,fun t v h=> .inl h,?_⟩
 refine wp ?_;exact rp_ret rfl ⟨.cn rfl rfl inferInstance rfl ⟨.inr rfl,.inl rfl,.inr (by rw[show (0:Rat).num.natAbs=0 from rfl,limbs_zero];rfl),.inr rfl,trivial⟩,trivial⟩
theorem rpNumber{Kw:World→Prop}[KSt Kw][KHas Kw MaxL](b:Nat)(i:Int)(x:Value)(bad:Bool)(s:ST)(hw:s.w.length≤20000):FnO Tryz.prog 92 Kw (rpR b i x bad) [.d (.v (ptv b 0)),.g (enX s)] (fun post res=>post=rpR b i x (bad||!(numX s).2)∧res=[.g (enR (numX s).1)]):=by
 have hp:=parseRF (Kw:=Kw) s.w hw;obtain⟨sb,w,l⟩:=s;unfold numX;dsimp only[ST.w,ST.b]at hp ⊢;rw[enX_mk];refine FnO.of Tryz.func92 rfl (by kernel_rfl) Tryz.ntmps92 Tryz.results92 rfl rfl fun w0 S0 vs hS hv hKW=>⟨_,fun t v h=> .inl h,?_⟩
 refine wp ?_;cases hq:parseR w with
 | none=>
   rw[hq]at hp;(first | intro K ms hms hK | intro K hK | skip);((try (first | intro K ms hms hK | intro K hK));(first | apply Chain.go | apply Chain.goD);exact rfl;exact rfl;(refine Loc.callWT hp rfl ?_ (kHereO hKW);(repeat (first | exact trivial | refine⟨.inl rfl,?_⟩ | refine⟨.inr rfl,?_⟩))));cases sb with
   | true=>
     refine wp ?_;rw[show (bad||!(true&&(none:Option Rat).isSome))=true by cases bad<;>rfl];exact rp_ret rfl ⟨.cn rfl rfl inferInstance rfl ⟨.inl rfl,.inl rfl,.inl rfl,trivial⟩,trivial⟩
   | false=>
     refine wp ?_;rw[show (bad||!(false&&(none:Option Rat).isSome))=true by cases bad<;>rfl];exact rp_ret rfl ⟨.cn rfl rfl inferInstance rfl ⟨.inl rfl,.inl rfl,.inl rfl,trivial⟩,trivial⟩
 | some q=>
   rw[hq]at hp;(first | intro K ms hms hK | intro K hK | skip);((try (first | intro K ms hms hK | intro K hK));(first | apply Chain.go | apply Chain.goD);exact rfl;exact rfl;(refine Loc.callWT hp rfl ?_ (kHereO hKW);(repeat (first | exact trivial | refine⟨.inl rfl,?_⟩ | refine⟨.inr rfl,?_⟩))));cases sb with
   | true=>
     refine wp ?_;rw[show (bad||!(true&&(some q:Option Rat).isSome))=bad by cases bad<;>rfl];exact rp_ret rfl ⟨.cn rfl rfl inferInstance rfl ⟨.inl rfl,.inl rfl,.inl rfl,trivial⟩,trivial⟩
   | false=>
     refine wp ?_;rw[show (bad||!(false&&(some q:Option Rat).isSome))=true by cases bad<;>rfl];exact rp_ret rfl ⟨.cn rfl rfl inferInstance rfl ⟨.inl rfl,.inl rfl,.inl rfl,trivial⟩,trivial⟩
end Go.Proofs.YthdkkpocihkgbaaGreatDoor
