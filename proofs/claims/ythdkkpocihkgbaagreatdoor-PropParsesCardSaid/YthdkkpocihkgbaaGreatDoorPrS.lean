import Derived.Test.YthdkkpocihkgbaaGreatDoorPrH
set_option maxRecDepth 100000
set_option maxHeartbeats 4000000
namespace Go.Proofs.YthdkkpocihkgbaaGreatDoor
open Go.RowKit
section
variable {P:Program}{C:Cx}{o:Oper}{σ:AS}
theorem Inv.Af{β:Nat→Value}{a:Act}{w w':World}(hi:Inv C σ β a w){pre:List (Value×ej)}{is:List Nat}(hl:is.length=pre.length)(hO:∀ j (h:j<pre.length) (h':j<is.length),af σ.objs is[j]=some (.own pre[j].1 pre[j].2))(h:qn (pre.map (·.1)) w w'):qn C.m C.w0 w':=by
 obtain⟨h1,h2,h3,h4,h5⟩:=h;refine⟨h1.trans hi.os,h2.trans hi.tape,h3.trans hi.output,Nat.le_trans hi.size h4,fun b hb hne=>?_⟩;refine(h5 b (Nat.lt_of_lt_of_le hb hi.size) fun x hx e=>?_).trans (hi.fr b hb (by rintro ⟨x,hx,e⟩;exact hne x hx e));obtain⟨y,hy,rfl⟩:=List.mem_map.1 hx;obtain⟨j,hj,rfl⟩:=List.getElem_of_mem hy;have h6:=hO j hj (by omega);have h7:=(hi.obj _ _ h6).1;rcases (hi.own _ _ b h6 (by rw[h7];exact e)).1 with ⟨z,hz,e2⟩ | h8
 ·exact hne z hz e2
 ·omega
theorem Do.du{f:FuncId}{K:World→Prop}{pre post:List (Value×ej)}{args res:List DV}{xs:Array Operand}{ts:Array TypeId}{d:Nat}(is:List Nat)(hF:FnO P f K pre args (fun q r=>q=post∧r=res))(ho:o.op= .call {callee:= .value (.func f),args:=xs,argTypes:=ts })(hd:o.dst=some d)
  (hn:is.Nodup) (hl:is.length=pre.length) (hl2:post.length=pre.length) (hO:∀ j (h:j<pre.length) (h':j<is.length),af σ.objs is[j]=some (.own pre[j].1 pre[j].2)) (ha:dp σ xs.toList args) (hKw:∀ w',qn C.m C.w0 w'→K w'):Do P C o σ (dQ res) ⟨is,[],cS is post,none⟩:=by
 intro σ' hlk hdst a w K' Q' ⟨β,hi⟩ hK;have hO':∀ j (h:j<pre.length) (h':j<is.length),af σ'.objs is[j]=some (.own pre[j].1 pre[j].2):=fun j h h'=>by rw[hlk.rd _ (List.getElem_mem h')];exact hO j h h'
 unfold Oper.wp;rw[fT hF.body ho rfl];have h1:=dm (σ:=σ) hi (fun x hx=>hlk.ra hi (by rw[ho];simp only[Op.operands,Call.operands];simp at hx ⊢;exact .inr hx)) ha;have hβ:∀ j (h:j<pre.length) (h':j<is.length),β is[j]=pre[j].1:=fun j h1 h2=>(hi.obj _ _ (hO' j h1 h2)).1;refine(hF.run (Dat C β σ'.objs w) w _ (fun w' hf=>hKw w' (hi.Af hl hO' hf)) (fun b hb=>hb.2.1) ⟨fun i h=>(hi.obj _ _ (hO' i h (by omega))).2.1,fun i h=>(hi.obj _ _ (hO' i h (by omega))).2.2,fun i h b hb=>?_,fun i j h h' b q1 q2=>?_⟩ h1).mono ?_
 ·have hb':aQ (β (is[i]'(by omega)))=some b:=by rw[hβ i h (by omega)];exact hb
  exact⟨(hi.own _ _ b (hO' i h (by omega)) hb').2,fun hD=>hD.2.2 _ _ (hO' i h (by omega)) hb'⟩
 ·have:=hi.dis _ _ _ _ b (hO' i h (by omega)) (hO' j h' (by omega)) (by rw[hβ i h (by omega)];exact q1) (by rw[hβ j h' (by omega)];exact q2);exact(List.getElem_inj hn).1 this
 ·rintro ev w' ⟨_,_,u,⟨rfl,rfl⟩,p2,rfl,p3,p4,p5,p6,p7,p8,p9,p10⟩;obtain⟨h5,h6⟩:=hi.Ah is pre _ hn hl p2 hO' p3 p4 p5 p6 p7 p8 p9;have h7:=h5.put (some d) (fun t ht=>by cases ht;exact dstOK.out hdst d hd) (gz (xs:=_) (RA.same (w':=w') p10 fun b hb=>⟨h6 b hb,rfl⟩));rw[hd]at hK ⊢;exact hK _ w' ⟨_,h7⟩
end
attribute [local irreducible] AC Do St
theorem wp{p q:Prop}(k:q)(hs:Wk q→p:=by
  intro k
  try (first | intro K ms hms hK | intro K hK)
  repeat (first
   | refine Ch.no rfl rfl ?_
   | refine Ch.iX rfl rfl ?_
   | ((first | apply Ch.go | apply Ch.ah);exact rfl;exact rfl;first
     | exact Loc.move (v:= .d _) rfl rfl
     | exact Loc.assign (v:= .d _) rfl rfl
     | exact Loc.xr rfl rfl
     | exact Loc.oy rfl rfl
     | exact Loc.u7 rfl rfl
     | exact Loc.eC (id:=107) rfl rfl rfl rfl
     | exact Loc.eC (id:=124) rfl rfl rfl rfl
     | exact Loc.eC (id:=171) rfl rfl rfl rfl
     | exact Loc.eC (id:=205) rfl rfl rfl rfl
     | exact Loc.eC (id:=215) rfl rfl rfl rfl
     | exact Loc.eC (id:=11) rfl rfl rfl rfl
     | exact Loc.c7 rfl rfl rfl rfl
     | exact Loc.cU rfl rfl rfl
     | exact Loc.cY rfl rfl rfl
     | exact Loc.cV rfl rfl
     | exact Loc.bh (v:= .d _) rfl rfl rfl
     | exact Loc.bk (v:= .d _) rfl rfl rfl
     | exact Loc.cz rfl rfl rfl rfl (by kernel_rfl)
     | exact Loc.cZ rfl rfl rfl
     | exact Loc.cQ rfl rfl rfl rfl
     | exact Loc.ea rfl rfl rfl rfl (by assumption) rfl
     | exact Loc.fN rfl rfl
     | exact Loc.fP rfl rfl
     | exact Loc.fM rfl rfl rfl
     | exact Loc.len rfl rfl
     | exact Loc.eb rfl rfl rfl (by omega)
     | exact Loc.eG rfl rfl rfl (by omega)
     | exact Loc.ec rfl rfl rfl (by omega)
     | exact Loc.eE rfl rfl rfl (by omega)
     | exact Loc.eP rfl rfl rfl (by omega)
     | exact Loc.eM rfl rfl rfl (by omega)
     | exact Loc.eD rfl rfl rfl (by omega)
     | exact Loc.eF rfl rfl rfl (by omega)
     | exact Loc.add rfl rfl rfl (IntWalk.i64_in _ (by omega))
     | exact Loc.sub rfl rfl rfl (IntWalk.i64_in _ (by omega))
     | exact Loc.fL rfl rfl
     | exact Loc.fJ rfl rfl
     | exact Loc.cW rfl rfl rfl
     | exact Loc.c8 rfl rfl rfl (by assumption) rfl
     | exact Loc.cB rfl rfl rfl rfl rfl (by omega) rfl
     | exact Loc.move (v:= .g _) rfl rfl
     | exact Loc.move (v:= .p _ _) rfl rfl
     | exact Loc.move (v:= .r _ _) rfl rfl
     | exact Loc.move (v:= .t _) rfl rfl
     | exact Loc.assign (v:= .g _) rfl rfl
     | exact Loc.assign (v:= .r _ _) rfl rfl
     | exact Loc.assign (v:= .p _ _) rfl rfl
     | exact Loc.extract (v:= .d _) rfl rfl rfl rfl
     | exact Loc.extract (v:= .g _) rfl rfl rfl rfl
     | exact Loc.bh (v:= .g _) rfl rfl rfl
     | exact Loc.bk (v:= .g _) rfl rfl rfl
     | exact Loc.move (v:= .un) rfl rfl
     | exact Loc.build rfl rfl rfl rfl
     | exact Loc.df rfl rfl rfl rfl rfl rfl rfl
     | exact Loc.sub rfl rfl rfl (mu (by omega) (by omega))
     | exact Loc.mul rfl rfl rfl (IntWalk.i64_in _ (by omega))
     | exact Loc.sub rfl rfl rfl (AH (by omega) (by omega))
     | exact Loc.conv rfl rfl (IntWalk.i64_in _ (by omega))
     | exact Loc.oV rfl rfl (by kernel_rfl)
     | exact Loc.qI rfl rfl rfl rfl (by assumption) (by kernel_rfl)
     | exact Loc.qE rfl rfl rfl (by first | assumption | exact rfl)
     | exact Loc.qD rfl rfl rfl (by first | assumption | decide)
     | exact Loc.qH rfl rfl rfl (by first | assumption | decide)
     | exact Loc.qF rfl rfl rfl (by first | assumption | exact rfl)
     | exact Loc.AP rfl rfl rfl (by kernel_rfl) rfl
     | exact Loc.AL rfl rfl rfl (by kernel_rfl) rfl
     | (focus (refine Loc.eI (by assumption) rfl ?_;(repeat (first | exact trivial | refine⟨.inl rfl,?_⟩ | refine⟨.inr rfl,?_⟩));done))
     | (focus (refine Loc.jh (by assumption) rfl ?_;(repeat (first | exact trivial | refine⟨.inl rfl,?_⟩ | refine⟨.inr rfl,?_⟩));done))
     | (focus (refine Loc.mU (by assumption) rfl ?_;(repeat (first | exact trivial | refine⟨.inl rfl,?_⟩ | refine⟨.inr rfl,?_⟩));done))
     | (focus (refine Loc.ot (by assumption) rfl ?_ (gm KSt.st (by assumption) rfl);(repeat (first | exact trivial | refine⟨.inl rfl,?_⟩ | refine⟨.inr rfl,?_⟩));done))
     | (focus (refine Loc.oz (by assumption) rfl ?_ (gm KSt.st (by assumption) rfl);(repeat (first | exact trivial | refine⟨.inl rfl,?_⟩ | refine⟨.inr rfl,?_⟩));done))
     | (focus (refine Loc.lf (by assumption) rfl ?_ (gm KSt.st (by assumption) rfl);(repeat (first | exact trivial | refine⟨.inl rfl,?_⟩ | refine⟨.inr rfl,?_⟩));done)))
   | refine Ch.eO (hK _ ?_)
   | ((first | apply Ch.st | apply Ch.aU);exact rfl;exact rfl;(first
     | exact Do.dt (id:=107) rfl rfl rfl rfl rfl rfl rfl rfl
     | exact Do.dt (id:=124) rfl rfl rfl rfl rfl rfl rfl rfl
     | exact Do.dt (id:=171) rfl rfl rfl rfl rfl rfl rfl rfl
     | exact Do.dt (id:=205) rfl rfl rfl rfl rfl rfl rfl rfl
     | exact Do.dt (id:=215) rfl rfl rfl rfl rfl rfl rfl rfl
     | exact Do.dt (id:=11) rfl rfl rfl rfl rfl rfl rfl rfl
     | exact Do.aC rfl rfl rfl rfl .g rfl rfl rfl
     | exact Do.aC rfl rfl rfl rfl .d rfl rfl rfl
     | exact Do.aC rfl rfl rfl rfl (.r rfl) rfl rfl rfl);exact rfl;exact rfl)
   | ((first | apply Ch.ef | apply Ch.bU);exact rfl;exact rfl;(first
     | exact Do.alloc rfl rfl rfl
     | exact Do.box rfl rfl rfl .g rfl
     | exact Do.box rfl rfl rfl .d rfl
     | exact Do.fI rfl rfl
     | exact Do.ck rfl rfl rfl rfl rfl rfl (by first | omega | (simp;omega))
     | exact Do.bS rfl rfl rfl rfl rfl rfl);exact rfl;exact rfl)
   | refine Ch.fK (by rw[hms];kernel_rfl) (hK _ ?_)
   | refine Ch.iY rfl rfl ?_
   | refine AC.seq ?_
   | (refine AC.mm (by decide+kernel) ?_;intro K hK)
   | (refine AC.ox (by decide+kernel) ?_;intro K hK)
   | (refine AC.qG (by kernel_rfl) (by decide+kernel) ?_;intro K ms hms hK)
   | (refine AC.pD (by kernel_rfl) (by decide+kernel) ?_;intro K ms hms hK)
   | refine AC.jg rfl ?_
   | refine AC.ji rfl ?_
   | refine AC.block ?_
   | refine AC.exit ?_
   | refine AC.ret ?_
   | refine AC.skip ?_)
  first
   | exact k.out
   | (revert K;exact k.out)
   | (revert K ms;exact k.out)):p:=hs ⟨k⟩
theorem cO{p q r:Prop}(h:r)(k:q)(hs:Wk r→Wk q→p:=by
  intro h k
  try (first | intro K ms hms hK | intro K hK)
  (first | apply Ch.ef | apply Ch.bU);exact rfl;exact rfl
  focus
   first
    | (refine Do.du [205] h.out rfl rfl (by decide) rfl rfl (kS rfl) ?_ (by assumption);(repeat (first | exact trivial | refine⟨.inl rfl,?_⟩ | refine⟨.inr rfl,?_⟩));done)
    | (refine Do.du [107] h.out rfl rfl (by decide) rfl rfl (kS rfl) ?_ (by assumption);(repeat (first | exact trivial | refine⟨.inl rfl,?_⟩ | refine⟨.inr rfl,?_⟩));done)
    | (refine Do.du [124] h.out rfl rfl (by decide) rfl rfl (kS rfl) ?_ (by assumption);(repeat (first | exact trivial | refine⟨.inl rfl,?_⟩ | refine⟨.inr rfl,?_⟩));done)
    | (refine Do.du [171] h.out rfl rfl (by decide) rfl rfl (kS rfl) ?_ (by assumption);(repeat (first | exact trivial | refine⟨.inl rfl,?_⟩ | refine⟨.inr rfl,?_⟩));done)
    | (refine Do.du [11] h.out rfl rfl (by decide) rfl rfl (kS rfl) ?_ (by assumption);(repeat (first | exact trivial | refine⟨.inl rfl,?_⟩ | refine⟨.inr rfl,?_⟩));done)
    | (refine Do.du [215] h.out rfl rfl (by decide) rfl rfl (kS rfl) ?_ (by assumption);(repeat (first | exact trivial | refine⟨.inl rfl,?_⟩ | refine⟨.inr rfl,?_⟩));done)
    | (refine Do.du [36] h.out rfl rfl (by decide) rfl rfl (kS rfl) ?_ (by assumption);(repeat (first | exact trivial | refine⟨.inl rfl,?_⟩ | refine⟨.inr rfl,?_⟩));done)
  exact rfl;exact rfl
  first
   | exact k.out
   | (revert K;exact k.out)
   | (revert K ms;exact k.out)):p:=hs ⟨h⟩ ⟨k⟩
def rE(i:Int)(x:Value)(bad:Bool):List D:=[.v (.int .i64 i),.v x,.v (.bool bad)]
def fS(b:Nat)(i:Int)(x:Value)(bad:Bool):List (Value×ej):=[(aT b 0,fm b 196 (rE i x bad))]
def pb(b:Nat)(i:Int)(x:Value)(bad:Bool):AO:=bL b 196 (rE i x bad)
theorem kS{b:Nat}{i:Int}{x:Value}{bad:Bool}{id:Nat}{O:List (Nat×AO)}(h0:af O id=some (pb b i x bad)):∀ j (_:j<(fS b i x bad).length) (_:j<[id].length),af O [id][j]=some (.own (fS b i x bad)[j].1 (fS b i x bad)[j].2):=fun j h _=>by
 match j,h with
 | 0,_=>exact h0
 | j+1,h=>exact absurd h (by simp[fS])
theorem cq{P:Program}{σ:AS}{rs:List ResultVar}{nt b:Nat}{i:Int}{x:Value}{bad:Bool}{r:List DV}(h0:af σ.objs (nt+100+0)=some (pb b i x bad))(hr:ressX P σ rs r):∃ post res,(post=fS b i x bad∧res=r)∧post.length=1∧ressX P σ rs res∧∀ j (h:j<post.length),af σ.objs (nt+100+j)=some (.own post[j].1 post[j].2):=
 ⟨_,_,⟨rfl,rfl⟩,rfl,hr,fun j h=>by
  match j,h with
  | 0,_=>exact h0
  | j+1,h=>exact absurd h (by simp[fS])⟩
theorem pL(b:Nat)(i:Int)(x:Value)(bad:Bool):FnO Tryz.prog 147 (fun _=>True) (fS b i x bad) [.d (.v (aT b 0))] (fun post res=>post=fS b i x true∧res=[.g (fc ⟨[],0⟩)]):=by
 refine FnO.of Tryz.func147 rfl (by kernel_rfl) Tryz.ntmps147 Tryz.results147 rfl rfl fun w0 S0 vs hS hv hKW=>⟨_,fun t v h=> .inl h,?_⟩
 refine wp ?_;exact cq rfl ⟨.cn rfl rfl inferInstance rfl ⟨.inr rfl,.inl rfl,.inr (by rw[show (0:Rat).num.natAbs=0 from rfl,bl];rfl),.inr rfl,trivial⟩,trivial⟩
theorem pz{Kw:World→Prop}[KSt Kw][KHas Kw ig](b:Nat)(i:Int)(x:Value)(bad:Bool)(s:ST)(hw:s.w.length≤20000):FnO Tryz.prog 92 Kw (fS b i x bad) [.d (.v (aT b 0)),.g (aq s)] (fun post res=>post=fS b i x (bad||!(aZ s).2)∧res=[.g (aN (aZ s).1)]):=by
 have hp:=BO (Kw:=Kw) s.w hw;obtain⟨sb,w,l⟩:=s;unfold aZ;dsimp only[ST.w,ST.b]at hp ⊢;rw[bE];refine FnO.of Tryz.func92 rfl (by kernel_rfl) Tryz.ntmps92 Tryz.results92 rfl rfl fun w0 S0 vs hS hv hKW=>⟨_,fun t v h=> .inl h,?_⟩
 refine wp ?_;cases hq:aX w with
 | none=>
   rw[hq]at hp;(first | intro K ms hms hK | intro K hK | skip);((try (first | intro K ms hms hK | intro K hK));(first | apply Ch.go | apply Ch.ah);exact rfl;exact rfl;(refine Loc.lf hp rfl ?_ (yj hKW);(repeat (first | exact trivial | refine⟨.inl rfl,?_⟩ | refine⟨.inr rfl,?_⟩))));cases sb with
   | true=>
     refine wp ?_;rw[show (bad||!(true&&(none:Option Rat).isSome))=true by cases bad<;>rfl];exact cq rfl ⟨.cn rfl rfl inferInstance rfl ⟨.inl rfl,.inl rfl,.inl rfl,trivial⟩,trivial⟩
   | false=>
     refine wp ?_;rw[show (bad||!(false&&(none:Option Rat).isSome))=true by cases bad<;>rfl];exact cq rfl ⟨.cn rfl rfl inferInstance rfl ⟨.inl rfl,.inl rfl,.inl rfl,trivial⟩,trivial⟩
 | some q=>
   rw[hq]at hp;(first | intro K ms hms hK | intro K hK | skip);((try (first | intro K ms hms hK | intro K hK));(first | apply Ch.go | apply Ch.ah);exact rfl;exact rfl;(refine Loc.lf hp rfl ?_ (yj hKW);(repeat (first | exact trivial | refine⟨.inl rfl,?_⟩ | refine⟨.inr rfl,?_⟩))));cases sb with
   | true=>
     refine wp ?_;rw[show (bad||!(true&&(some q:Option Rat).isSome))=bad by cases bad<;>rfl];exact cq rfl ⟨.cn rfl rfl inferInstance rfl ⟨.inl rfl,.inl rfl,.inl rfl,trivial⟩,trivial⟩
   | false=>
     refine wp ?_;rw[show (bad||!(false&&(some q:Option Rat).isSome))=true by cases bad<;>rfl];exact cq rfl ⟨.cn rfl rfl inferInstance rfl ⟨.inl rfl,.inl rfl,.inl rfl,trivial⟩,trivial⟩
