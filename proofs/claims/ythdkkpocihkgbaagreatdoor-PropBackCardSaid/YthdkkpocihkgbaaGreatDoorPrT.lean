import Derived.Test.YthdkkpocihkgbaaGreatDoorPrO
import Derived.Test.YthdkkpocihkgbaaGreatDoorPrH
import Derived.Test.YthdkkpocihkgbaaGreatDoorK4
set_option maxRecDepth 100000
set_option maxHeartbeats 8000000
namespace Go.Proofs.YthdkkpocihkgbaaGreatDoor
open Go.RowKit
section
variable {P:Program}{C:Cx}{o:Oper}{σ:AS}
theorem Inv.frTr{β:Nat→Value}{a:Act}{w w':World}(hi:Inv C σ β a w){pre:List (Value×Rel)}{is:List Nat}(hl:is.length=pre.length)(hO:∀ j (h:j<pre.length) (h':j<is.length),get? σ.objs is[j]=some (.own pre[j].1 pre[j].2))(h:FrO (pre.map (·.1)) w w'):FrO C.m C.w0 w':=by
 obtain⟨h1,h2,h3,h4,h5⟩:=h;refine⟨h1.trans hi.os,h2.trans hi.tape,h3.trans hi.output,Nat.le_trans hi.size h4,fun b hb hne=>?_⟩;refine(h5 b (Nat.lt_of_lt_of_le hb hi.size) fun x hx e=>?_).trans (hi.fr b hb (by rintro ⟨x,hx,e⟩;exact hne x hx e));obtain⟨y,hy,rfl⟩:=List.mem_map.1 hx;obtain⟨j,hj,rfl⟩:=List.getElem_of_mem hy;have h6:=hO j hj (by omega);have h7:=(hi.obj _ _ h6).1;rcases (hi.own _ _ b h6 (by rw[h7];exact e)).1 with ⟨z,hz,e2⟩ | h8
 ·exact hne z hz e2
 ·omega
theorem Do.callO{f:FuncId}{K:World→Prop}{pre post:List (Value×Rel)}{args res:List DV}{xs:Array Operand}{ts:Array TypeId}{d:Nat}(is:List Nat)(hF:FnO P f K pre args (fun q r=>q=post∧r=res))(ho:o.op= .call {callee:= .value (.func f),args:=xs,argTypes:=ts })(hd:o.dst=some d)
  (hn:is.Nodup) (hl:is.length=pre.length) (hl2:post.length=pre.length) (hO:∀ j (h:j<pre.length) (h':j<is.length),get? σ.objs is[j]=some (.own pre[j].1 pre[j].2)) (ha:argsOK σ xs.toList args) (hKw:∀ w',FrO C.m C.w0 w'→K w'):Do P C o σ (resAV res) ⟨is,[],ownsAt is post,none⟩:=by
 intro σ' hlk hdst a w K' Q' ⟨β,hi⟩ hK;have hO':∀ j (h:j<pre.length) (h':j<is.length),get? σ'.objs is[j]=some (.own pre[j].1 pre[j].2):=fun j h h'=>by rw[hlk.rd _ (List.getElem_mem h')];exact hO j h h'
 unfold Oper.wp;rw[exec_call hF.body ho rfl];have h1:=argsOK_out (σ:=σ) hi (fun x hx=>hlk.ra hi (by rw[ho];simp only[Op.operands,Call.operands];simp at hx ⊢;exact .inr hx)) ha;have hβ:∀ j (h:j<pre.length) (h':j<is.length),β is[j]=pre[j].1:=fun j h1 h2=>(hi.obj _ _ (hO' j h1 h2)).1;refine(hF.run (Dat C β σ'.objs w) w _ (fun w' hf=>hKw w' (hi.frTr hl hO' hf)) (fun b hb=>hb.2.1) ⟨fun i h=>(hi.obj _ _ (hO' i h (by omega))).2.1,fun i h=>(hi.obj _ _ (hO' i h (by omega))).2.2,fun i h b hb=>?_,fun i j h h' b q1 q2=>?_⟩ h1).mono ?_
 ·have hb':blk (β (is[i]'(by omega)))=some b:=by rw[hβ i h (by omega)];exact hb
  exact⟨(hi.own _ _ b (hO' i h (by omega)) hb').2,fun hD=>hD.2.2 _ _ (hO' i h (by omega)) hb'⟩
 ·have:=hi.dis _ _ _ _ b (hO' i h (by omega)) (hO' j h' (by omega)) (by rw[hβ i h (by omega)];exact q1) (by rw[hβ j h' (by omega)];exact q2);exact(List.getElem_inj hn).1 this
 ·rintro ev w' ⟨_,_,u,⟨rfl,rfl⟩,p2,rfl,p3,p4,p5,p6,p7,p8,p9,p10⟩;obtain⟨h5,h6⟩:=hi.updN is pre _ hn hl p2 hO' p3 p4 p5 p6 p7 p8 p9;have h7:=h5.put (some d) (fun t ht=>by cases ht;exact dstOK.out hdst d hd) (resAV_sound (xs:=_) (RA.same (w':=w') p10 fun b hb=>⟨h6 b hb,rfl⟩));rw[hd]at hK ⊢;exact hK _ w' ⟨_,h7⟩
end
attribute [local irreducible] AC Do St
theorem wp{p q:Prop}(k:q)(hs:Wk q→p:=by
  intro k
  try (first | intro K ms hms hK | intro K hK)
  repeat (first
   | refine Chain.no rfl rfl ?_
   | refine Chain.noD rfl rfl ?_
   | ((first | apply Chain.go | apply Chain.goD);exact rfl;exact rfl;first
     | exact Loc.move (v:= .d _) rfl rfl
     | exact Loc.assign (v:= .d _) rfl rfl
     | exact Loc.chkV rfl rfl
     | exact Loc.fieldV rfl rfl
     | exact Loc.lenV rfl rfl
     | exact Loc.loadB1 (id:=107) rfl rfl rfl rfl
     | exact Loc.loadB1 (id:=124) rfl rfl rfl rfl
     | exact Loc.loadB1 (id:=171) rfl rfl rfl rfl
     | exact Loc.loadB1 (id:=205) rfl rfl rfl rfl
     | exact Loc.loadB1 (id:=215) rfl rfl rfl rfl
     | exact Loc.loadB1 (id:=11) rfl rfl rfl rfl
     | exact Loc.loadP1 rfl rfl rfl rfl
     | exact Loc.loadQ1 rfl rfl rfl
     | exact Loc.fieldP rfl rfl rfl
     | exact Loc.fieldQ rfl rfl
     | exact Loc.pickT (v:= .d _) rfl rfl rfl
     | exact Loc.pickF (v:= .d _) rfl rfl rfl
     | exact Loc.loadPn rfl rfl rfl rfl (by kernel_rfl)
     | exact Loc.loadQw rfl rfl rfl
     | exact Loc.loadQn rfl rfl rfl rfl
     | exact Loc.idxM rfl rfl rfl rfl (by assumption) rfl
     | exact Loc.lenM rfl rfl
     | exact Loc.lenN rfl rfl
     | exact Loc.lenR rfl rfl rfl
     | exact Loc.len rfl rfl
     | exact Loc.lssT rfl rfl rfl (by omega)
     | exact Loc.lssF rfl rfl rfl (by omega)
     | exact Loc.eqlT rfl rfl rfl (by omega)
     | exact Loc.eqlF rfl rfl rfl (by omega)
     | exact Loc.neqT rfl rfl rfl (by omega)
     | exact Loc.neqF rfl rfl rfl (by omega)
     | exact Loc.gtrT rfl rfl rfl (by omega)
     | exact Loc.gtrF rfl rfl rfl (by omega)
     | exact Loc.add rfl rfl rfl (IntWalk.i64_in _ (by omega))
     | exact Loc.sub rfl rfl rfl (IntWalk.i64_in _ (by omega))
     | exact Loc.notT rfl rfl
     | exact Loc.notF rfl rfl
     | exact Loc.fieldE rfl rfl rfl
     | exact Loc.loadE1 rfl rfl rfl (by assumption) rfl
     | exact Loc.idxR rfl rfl rfl rfl rfl (by omega) rfl
     | exact Loc.move (v:= .g _) rfl rfl
     | exact Loc.move (v:= .p _ _) rfl rfl
     | exact Loc.move (v:= .r _ _) rfl rfl
     | exact Loc.move (v:= .t _) rfl rfl
     | exact Loc.assign (v:= .g _) rfl rfl
     | exact Loc.assign (v:= .r _ _) rfl rfl
     | exact Loc.assign (v:= .p _ _) rfl rfl
     | exact Loc.extract (v:= .d _) rfl rfl rfl rfl
     | exact Loc.extract (v:= .g _) rfl rfl rfl rfl
     | exact Loc.pickT (v:= .g _) rfl rfl rfl
     | exact Loc.pickF (v:= .g _) rfl rfl rfl
     | exact Loc.move (v:= .un) rfl rfl
     | exact Loc.build rfl rfl rfl rfl
     | exact Loc.litP rfl rfl rfl rfl rfl rfl rfl
     | exact Loc.sub rfl rfl rfl (wrap_i32 (by omega) (by omega))
     | exact Loc.mul rfl rfl rfl (IntWalk.i64_in _ (by omega))
     | exact Loc.sub rfl rfl rfl (u8w (by omega) (by omega))
     | exact Loc.conv rfl rfl (IntWalk.i64_in _ (by omega))
     | exact Loc.strLenL rfl rfl (by kernel_rfl)
     | exact Loc.strAtL rfl rfl rfl rfl (by assumption) (by kernel_rfl)
     | exact Loc.strEqT rfl rfl rfl (by first | assumption | exact rfl)
     | exact Loc.strEqF rfl rfl rfl (by first | assumption | decide)
     | exact Loc.strNxT rfl rfl rfl (by first | assumption | decide)
     | exact Loc.strNxF rfl rfl rfl (by first | assumption | exact rfl)
     | exact Loc.eqB rfl rfl rfl (by kernel_rfl) rfl
     | exact Loc.neB rfl rfl rfl (by kernel_rfl) rfl
     | (focus (refine Loc.callD (by assumption) rfl ?_;(repeat (first | exact trivial | refine⟨.inl rfl,?_⟩ | refine⟨.inr rfl,?_⟩));done))
     | (focus (refine Loc.callG (by assumption) rfl ?_;(repeat (first | exact trivial | refine⟨.inl rfl,?_⟩ | refine⟨.inr rfl,?_⟩));done))
     | (focus (refine Loc.callT (by assumption) rfl ?_;(repeat (first | exact trivial | refine⟨.inl rfl,?_⟩ | refine⟨.inr rfl,?_⟩));done))
     | (focus (refine Loc.callWD (by assumption) rfl ?_ (kHere KSt.st (by assumption) rfl);(repeat (first | exact trivial | refine⟨.inl rfl,?_⟩ | refine⟨.inr rfl,?_⟩));done))
     | (focus (refine Loc.callWG (by assumption) rfl ?_ (kHere KSt.st (by assumption) rfl);(repeat (first | exact trivial | refine⟨.inl rfl,?_⟩ | refine⟨.inr rfl,?_⟩));done))
     | (focus (refine Loc.callWT (by assumption) rfl ?_ (kHere KSt.st (by assumption) rfl);(repeat (first | exact trivial | refine⟨.inl rfl,?_⟩ | refine⟨.inr rfl,?_⟩));done)))
   | refine Chain.nil0 (hK _ ?_)
   | ((first | apply Chain.st | apply Chain.stD);exact rfl;exact rfl;(first
     | exact Do.storeB (id:=107) rfl rfl rfl rfl rfl rfl rfl rfl
     | exact Do.storeB (id:=124) rfl rfl rfl rfl rfl rfl rfl rfl
     | exact Do.storeB (id:=171) rfl rfl rfl rfl rfl rfl rfl rfl
     | exact Do.storeB (id:=205) rfl rfl rfl rfl rfl rfl rfl rfl
     | exact Do.storeB (id:=215) rfl rfl rfl rfl rfl rfl rfl rfl
     | exact Do.storeB (id:=11) rfl rfl rfl rfl rfl rfl rfl rfl
     | exact Do.storeP rfl rfl rfl rfl .g rfl rfl rfl
     | exact Do.storeP rfl rfl rfl rfl .d rfl rfl rfl
     | exact Do.storeP rfl rfl rfl rfl (.r rfl) rfl rfl rfl);exact rfl;exact rfl)
   | ((first | apply Chain.ef | apply Chain.efD);exact rfl;exact rfl;(first
     | exact Do.alloc rfl rfl rfl
     | exact Do.box rfl rfl rfl .g rfl
     | exact Do.box rfl rfl rfl .d rfl
     | exact Do.lit0 rfl rfl
     | exact Do.append1 rfl rfl rfl rfl rfl rfl (by first | omega | (simp;omega))
     | exact Do.appendN1 rfl rfl rfl rfl rfl rfl);exact rfl;exact rfl)
   | refine Chain.nilD (by rw[hms];kernel_rfl) (hK _ ?_)
   | refine Chain.noN rfl rfl ?_
   | refine AC.seq ?_
   | (refine AC.reg (by decide+kernel) ?_;intro K hK)
   | (refine AC.regG (by decide+kernel) ?_;intro K hK)
   | (refine AC.drw (by kernel_rfl) (by decide+kernel) ?_;intro K ms hms hK)
   | (refine AC.drwG (by kernel_rfl) (by decide+kernel) ?_;intro K ms hms hK)
   | refine AC.condT rfl ?_
   | refine AC.condF rfl ?_
   | refine AC.block ?_
   | refine AC.exit ?_
   | refine AC.ret ?_
   | refine AC.skip ?_)
  first
   | exact k.out
   | (revert K;exact k.out)
   | (revert K ms;exact k.out)):p:=hs ⟨k⟩
theorem cO{p q r:Prop}(h:r)(k:q)(hs:Wk r→Wk q→p:=by
  intro h k
  try (first | intro K ms hms hK | intro K hK)
  (first | apply Chain.ef | apply Chain.efD);exact rfl;exact rfl
  focus
   first
    | (refine Do.callO [205] h.out rfl rfl (by decide) rfl rfl (rp_get rfl) ?_ (by assumption);(repeat (first | exact trivial | refine⟨.inl rfl,?_⟩ | refine⟨.inr rfl,?_⟩));done)
    | (refine Do.callO [107] h.out rfl rfl (by decide) rfl rfl (rp_get rfl) ?_ (by assumption);(repeat (first | exact trivial | refine⟨.inl rfl,?_⟩ | refine⟨.inr rfl,?_⟩));done)
    | (refine Do.callO [124] h.out rfl rfl (by decide) rfl rfl (rp_get rfl) ?_ (by assumption);(repeat (first | exact trivial | refine⟨.inl rfl,?_⟩ | refine⟨.inr rfl,?_⟩));done)
    | (refine Do.callO [171] h.out rfl rfl (by decide) rfl rfl (rp_get rfl) ?_ (by assumption);(repeat (first | exact trivial | refine⟨.inl rfl,?_⟩ | refine⟨.inr rfl,?_⟩));done)
    | (refine Do.callO [11] h.out rfl rfl (by decide) rfl rfl (rp_get rfl) ?_ (by assumption);(repeat (first | exact trivial | refine⟨.inl rfl,?_⟩ | refine⟨.inr rfl,?_⟩));done)
    | (refine Do.callO [215] h.out rfl rfl (by decide) rfl rfl (rp_get rfl) ?_ (by assumption);(repeat (first | exact trivial | refine⟨.inl rfl,?_⟩ | refine⟨.inr rfl,?_⟩));done)
    | (refine Do.callO [36] h.out rfl rfl (by decide) rfl rfl (rp_get rfl) ?_ (by assumption);(repeat (first | exact trivial | refine⟨.inl rfl,?_⟩ | refine⟨.inr rfl,?_⟩));done)
  exact rfl;exact rfl
  first
   | exact k.out
   | (revert K;exact k.out)
   | (revert K ms;exact k.out)):p:=hs ⟨h⟩ ⟨k⟩
def rpC(i:Int)(x:Value)(bad:Bool):List D:=[.v (.int .i64 i),.v x,.v (.bool bad)]
def rpR(b:Nat)(i:Int)(x:Value)(bad:Bool):List (Value×Rel):=[(ptv b 0,boxR b 196 (rpC i x bad))]
def rpO(b:Nat)(i:Int)(x:Value)(bad:Bool):AO:=boxO b 196 (rpC i x bad)
theorem rp_get{b:Nat}{i:Int}{x:Value}{bad:Bool}{id:Nat}{O:List (Nat×AO)}(h0:get? O id=some (rpO b i x bad)):∀ j (_:j<(rpR b i x bad).length) (_:j<[id].length),get? O [id][j]=some (.own (rpR b i x bad)[j].1 (rpR b i x bad)[j].2):=fun j h _=>by
 match j,h with
 | 0,_=>exact h0
 | j+1,h=>exact absurd h (by simp[rpR])
theorem rp_ret{P:Program}{σ:AS}{rs:List ResultVar}{nt b:Nat}{i:Int}{x:Value}{bad:Bool}{r:List DV}(h0:get? σ.objs (nt+100+0)=some (rpO b i x bad))(hr:ressX P σ rs r):∃ post res,(post=rpR b i x bad∧res=r)∧post.length=1∧ressX P σ rs res∧∀ j (h:j<post.length),get? σ.objs (nt+100+j)=some (.own post[j].1 post[j].2):=
 ⟨_,_,⟨rfl,rfl⟩,rfl,hr,fun j h=>by
  match j,h with
  | 0,_=>exact h0
  | j+1,h=>exact absurd h (by simp[rpR])⟩
theorem rpFail(b:Nat)(i:Int)(x:Value)(bad:Bool):FnO Tryz.prog 147 (fun _=>True) (rpR b i x bad) [.d (.v (ptv b 0))] (fun post res=>post=rpR b i x true∧res=[.g (enE ⟨[],0⟩)]):=by
 refine FnO.of Tryz.func147 rfl (by kernel_rfl) Tryz.ntmps147 Tryz.results147 rfl rfl fun w0 S0 vs hS hv hKW=>⟨_,fun t v h=> .inl h,?_⟩
 refine wp ?_;exact rp_ret rfl ⟨.cn rfl rfl inferInstance rfl ⟨.inr rfl,.inl rfl,.inr (by rw[show (0:Rat).num.natAbs=0 from rfl,limbs_zero];rfl),.inr rfl,trivial⟩,trivial⟩
theorem rpNumber{Kw:World→Prop}[KSt Kw][KHas Kw MaxL](b:Nat)(i:Int)(x:Value)(bad:Bool)(s:ST)(hw:s.w.length≤20000):FnO Tryz.prog 92 Kw (rpR b i x bad) [.d (.v (ptv b 0)),.g (enX s)] (fun post res=>post=rpR b i x (bad||!(numX s).2)∧res=[.g (enR (numX s).1)]):=by
 have hp:=parseRF (Kw:=Kw) s.w hw;obtain⟨sb,w,l⟩:=s;unfold numX;dsimp only[ST.w,ST.b]at hp ⊢;rw[enX_mk];refine FnO.of Tryz.func92 rfl (by kernel_rfl) Tryz.ntmps92 Tryz.results92 rfl rfl fun w0 S0 vs hS hv hKW=>⟨_,fun t v h=> .inl h,?_⟩
 refine wp ?_;cases hq:parseR w with
 | none=>
   rw[hq]at hp;(first | intro K ms hms hK | intro K hK | skip);((try (first | intro K ms hms hK | intro K hK));(first | apply Chain.go | apply Chain.goD);exact rfl;exact rfl;(refine Loc.callWT hp rfl ?_ (kHereO hKW);(repeat (first | exact trivial | refine⟨.inl rfl,?_⟩ | refine⟨.inr rfl,?_⟩))));cases sb with
   | true=>
     refine wp ?_;rw[show (bad||!(true&&(none:Option Rat).isSome))=true by cases bad<;>rfl];exact rp_ret rfl ⟨.cn rfl rfl inferInstance rfl ⟨.inl rfl,.inl rfl,.inl rfl,trivial⟩,trivial⟩
   | false=>
     refine wp ?_;rw[show (bad||!(false&&(none:Option Rat).isSome))=true by cases bad<;>rfl];exact rp_ret rfl ⟨.cn rfl rfl inferInstance rfl ⟨.inl rfl,.inl rfl,.inl rfl,trivial⟩,trivial⟩
 | some q=>
   rw[hq]at hp;(first | intro K ms hms hK | intro K hK | skip);((try (first | intro K ms hms hK | intro K hK));(first | apply Chain.go | apply Chain.goD);exact rfl;exact rfl;(refine Loc.callWT hp rfl ?_ (kHereO hKW);(repeat (first | exact trivial | refine⟨.inl rfl,?_⟩ | refine⟨.inr rfl,?_⟩))));cases sb with
   | true=>
     refine wp ?_;rw[show (bad||!(true&&(some q:Option Rat).isSome))=bad by cases bad<;>rfl];exact rp_ret rfl ⟨.cn rfl rfl inferInstance rfl ⟨.inl rfl,.inl rfl,.inl rfl,trivial⟩,trivial⟩
   | false=>
     refine wp ?_;rw[show (bad||!(false&&(some q:Option Rat).isSome))=true by cases bad<;>rfl];exact rp_ret rfl ⟨.cn rfl rfl inferInstance rfl ⟨.inl rfl,.inl rfl,.inl rfl,trivial⟩,trivial⟩
end Go.Proofs.YthdkkpocihkgbaaGreatDoor
namespace Go.Proofs.YthdkkpocihkgbaaGreatDoor
open Go.RowKit
attribute [local irreducible] AC Do St
theorem Loc.addW{P:Program}{C:Cx}{o:Oper}{σ:AS}{T T':TypeId}{x y:Operand}{k:IntKind}{a b:Int}(ho:o.op= .binOp .add T x y T')(hx:ev σ x= .d (.v (.int k a)))(hy:ev σ y= .d (.v (.int k b))):Loc P C o σ (.d (.v (.int k (k.wrap (a+b))))):=
 Loc.bin ho hx hy (fun w=>by cases k<;>simp[binOp,Op.intArith]) rfl
theorem rpVariable(b:Nat)(i:Int)(x:Value)(bad:Bool)(w:List UInt8):FnO Tryz.prog 195 (fun _=>True) (rpR b i x bad) [.d (.v (ptv b 0)),.d (.v (.string (tx w)))] (fun post res=>post=rpR b i x bad∧res=[.d (.v (.int .i64 (varV i w).1)),.d (.v (.bool (varV i w).2))]):=by
 refine FnO.of Tryz.func195 rfl (by kernel_rfl) Tryz.ntmps195 Tryz.results195 rfl rfl fun w0 S0 vs hS hv hKW=>⟨_,fun t v h=> .inl h,?_⟩
 clear hv;cases w with
 | nil=>
   have hl0:([]:List UInt8).length=0:=rfl;refine wp ?_;exact rp_ret rfl ⟨.d rfl (.inl rfl),.d rfl (.inl rfl),trivial⟩
 | cons c t=>
 have hl:(c::t).length=t.length+1:=List.length_cons ..;have hc0:(c::t)[0]?=some c:=rfl;have hcb:=UInt8.toNat_lt c;have hbad:∀ (h:t.length<1∨6<t.length∨(c.toNat≠120∧c.toNat≠121)∨(t.head?=some 48∧1<t.length)),varV i (c::t)=(0,false):=fun h=>by
  show (if _ then _ else _)=_;rw[if_pos h]
 by_cases k1:t.length<1
 ·rw[hbad (.inl k1)];refine wp ?_;exact rp_ret rfl ⟨.d rfl (.inl rfl),.d rfl (.inl rfl),trivial⟩
 by_cases k2:6<t.length
 ·rw[hbad (.inr (.inl k2))];refine wp ?_;exact rp_ret rfl ⟨.d rfl (.inl rfl),.d rfl (.inl rfl),trivial⟩
 by_cases k3:c.toNat≠120∧c.toNat≠121
 ·rw[hbad (.inr (.inr (.inl k3)))];obtain⟨g1,g2⟩:=k3;refine wp ?_;exact rp_ret rfl ⟨.d rfl (.inl rfl),.d rfl (.inl rfl),trivial⟩
 obtain⟨d,r,rfl⟩:∃ d r,t=d::r:=by
  cases t with
  | nil=>exact absurd (by simp) k1
  | cons d r=>exact⟨d,r,rfl⟩
 have hd1:(c::d::r)[1]?=some d:=rfl;have hdb:=UInt8.toNat_lt d;have hl2:(d::r).length=r.length+1:=List.length_cons ..;have e48:(d=48)=(d.toNat=48):=propext ⟨fun h=>by rw[h];rfl,fun h=>UInt8.toNat_inj.1 h⟩;have k4:c.toNat=120∨c.toNat=121:=by omega
 by_cases k5:d.toNat=48∧1<(d::r).length
 ·rw[hbad (.inr (.inr (.inr ⟨by rw[List.head?_cons,Option.some.injEq,e48];exact k5.1,k5.2⟩)))];obtain⟨g1,g2⟩:=k5;rcases k4 with k4 | k4
  all_goals
   refine wp ?_;exact rp_ret rfl ⟨.d rfl (.inl rfl),.d rfl (.inl rfl),trivial⟩
 have hV:varV i (c::d::r)=if ∀x∈d::r,DigC x then(if c.toNat=121 then(IntKind.i64.wrap (i+(valF 0 (d::r):Int)),true)else((valF 0 (d::r):Int),decide ((valF 0 (d::r):Int)<i)))else(0,false):=by
  show (if _ then _ else _)=_;rw[if_neg (fun h=>by
   rcases h with h | h | h | ⟨h,h'⟩
   ·exact k1 h
   ·exact k2 h
   ·exact k3 h
   ·rw[List.head?_cons,Option.some.injEq,e48]at h;exact k5 ⟨h,h'⟩)]
 have hlen:(d::r).length≤6:=by omega
 clear hbad;rw[hV];have ht:(c::d::r).drop 1=d::r:=rfl;generalize hw:c::d::r=w at*;generalize hz:d::r=t at*;have h1w:1≤w.length:=by omega
 have loop:∀ j,10^(t.take j).length≤10^6:=fun j=>Nat.pow_le_pow_right (by decide) (by rw[List.length_take];omega);by_cases k6:d.toNat=48
 all_goals
  rcases k4 with k4 | k4
  all_goals
   refine wp ?_;((try (first | intro K ms hms hK | intro K hK));(first | apply Chain.go | apply Chain.goD);exact rfl;exact rfl;exact Loc.strFrom 1 rfl rfl rfl rfl h1w (by kernel_rfl));rw[ht];(first | intro K ms hms hK | intro K hK | skip);refine Chain.mkIter rfl rfl rfl rfl (by kernel_rfl) rfl fun b2=>?_;refine wp ?_;refine AC.loop (X:=Nat) (fun j=>⟨[(0,.d (.v (ptv b 0))),(1,.d (.v (.string (tx w)))),(6,.d (.v (.int .i64 ((valF 0 (t.take j):Nat):Int)))),(39,.d (.v (ptv b2 0)))],[(39,iterO b2 (tx t) j),(171,rpO b i x bad)]⟩) (fun j=>j≤t.length∧∀ y∈t.take j,DigC y) (fun j=>t.length-j) 0 ⟨Nat.zero_le _,by simp⟩ ⟨rfl,rfl,rfl,rfl,trivial⟩ ⟨rfl,rfl,trivial⟩ ?_;intro j ⟨hj,hdg⟩;dsimp only;have hvl:=valF_lt (t.take j) hdg 0;have hp10:=loop j;refine wp ?_;by_cases h1:j<t.length
   ·obtain⟨e,he⟩:∃ e,t[j]?=some e:=⟨_,List.getElem?_eq_getElem h1⟩
    have htk:=valF_take he 0;have hcl:=e.toNat_lt;((try (first | intro K ms hms hK | intro K hK));(first | apply Chain.ef | apply Chain.efD);exact rfl;exact rfl;exact Do.next (id:=39) (pos:=j) rfl rfl rfl (by rw[tx_size];exact h1);exact rfl;exact rfl);by_cases h2:e.toNat<128
    ·rw[dec_ascii he h2];dsimp only;by_cases h3:DigC e
     ·have hd2:∀ y∈t.take (j+1),DigC y:=fun y hy=>by
       rw[List.take_succ_eq_append_getElem h1,List.mem_append,List.mem_singleton]at hy;rcases hy with hy | hy
       ·exact hdg y hy
       ·obtain⟨_,h5⟩:=List.getElem?_eq_some_iff.1 he;rw[hy,h5];exact h3
      unfold DigC at h3;refine wp ?_;have hn2:(10:Int)*((valF 0 (t.take j):Nat):Int)+((e.toNat:Int)-48)=((valF 0 (t.take (j+1)):Nat):Int):=by rw[htk];omega
      exact⟨j+1,⟨h1,hd2⟩,by omega,⟨rfl,rfl,by dsimp only;rw[←hn2];rfl,rfl,trivial⟩,⟨rfl,rfl,trivial⟩⟩
     ·have hr:¬ ∀y∈t,DigC y:=fun h=>h3 (h e (List.mem_of_getElem? he));unfold DigC at h3;by_cases h4:e.toNat<48
      all_goals
       refine wp ?_;rw[if_neg hr];exact rp_ret rfl ⟨.d rfl (.inl rfl),.d rfl (.inl rfl),trivial⟩
    ·have h3:=dec_high he h2;have hr:¬ ∀y∈t,DigC y:=fun h=>by
      have:=h e (List.mem_of_getElem? he);unfold DigC at this;omega
     generalize Utf8.decode (tx t) j=q at h3;refine wp ?_;rw[if_neg hr];exact rp_ret rfl ⟨.d rfl (.inl rfl),.d rfl (.inl rfl),trivial⟩
   ·obtain rfl:j=t.length:=by omega
    rw[List.take_length]at hdg hvl ⊢;((try (first | intro K ms hms hK | intro K hK));(first | apply Chain.go | apply Chain.goD);exact rfl;exact rfl;exact Loc.nextEnd (id:=39) rfl rfl rfl (by rw[tx_size];omega));by_cases h6:((valF 0 t:Nat):Int)<i
    all_goals
     first
      | (refine wp ?_
         ((try (first | intro K ms hms hK | intro K hK));(first | apply Chain.go | apply Chain.goD);exact rfl;exact rfl;exact Loc.addW rfl rfl rfl);refine wp ?_;rw[if_pos hdg,if_pos k4];exact rp_ret rfl ⟨.d rfl (.inl rfl),.d rfl (.inl rfl),trivial⟩)
      | (refine wp ?_
         rw[if_pos hdg,if_neg (by omega),show decide ((valF 0 t:Int)<i)=_ by first | exact decide_eq_true h6 | exact decide_eq_false h6];exact rp_ret rfl ⟨.d rfl (.inl rfl),.d rfl (.inl rfl),trivial⟩)
end Go.Proofs.YthdkkpocihkgbaaGreatDoor
