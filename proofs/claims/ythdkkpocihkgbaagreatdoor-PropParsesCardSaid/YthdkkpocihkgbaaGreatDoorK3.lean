import Derived.Maps.OwnSet
import Derived.Carry
import Derived.Test.YthdkkpocihkgbaaGreatDoorK2
namespace Go.Proofs.YthdkkpocihkgbaaGreatDoor
open Go.RowKit
def DV.av:DV→AV
 | .d c=> .d c
 | .g cs=> .g cs
def argOK:AV→DV→Prop
 | .d c,.d c'=>c'=c∨c'=c.fg
 | .g cs,.g cs'=>cs'=cs∨cs'=cs.map D.fg
 | _,_=>False
theorem argOK.out{S:Nat→Prop}{w:World}{β:Nat→Value}{O:List (Nat×AO)}{u:Value}{v:AV}{x:DV}(h:argOK v x)(hu:RA S w β O u v):RV S w u x:=by
 cases v with
 | d c=>
   cases x with
   | d c'=>
     rcases h with h | h
     ·subst h;exact hu
     ·subst h;exact RD.fg hu
   | g=>exact h.elim
 | g cs=>
   cases x with
   | g cs'=>
     obtain⟨us,h1,h2⟩:=hu;rcases h with h | h
     ·subst h;exact⟨us,h1,h2⟩
     ·subst h;exact⟨us,h1,h2.fg⟩
   | d=>exact h.elim
 | _=>exact h.elim
def dp(σ:AS):List Operand→List DV→Prop
 | [],[]=>True
 | x::xs,d::ds=>argOK (ev σ x) d∧dp σ xs ds
 | _,_=>False
def RVs(S:Nat→Prop)(w:World)(us:List Value)(ds:List DV):Prop:=us.length=ds.length∧∀ i (h:i<us.length) (h':i<ds.length),RV S w us[i] ds[i]
def dQ:List DV→AV
 | [x]=>x.av
 | xs=> .t xs
theorem gz{S:Nat→Prop}{w:World}{β:Nat→Value}{O:List (Nat×AO)}{u:Value}{xs:List DV}(h:RA S w (fun _=>undef) [] u (dQ xs)):RA S w β O u (dQ xs):=by
 match xs,h with
 | [.d c],h=>exact h
 | [.g cs],h=>exact h
 | [],h=>exact h
 | _::_::_,h=>exact h
structure Fn(P:Program)(f:FuncId)(args:List DV)(res:List DV):Prop where
 body:∃ fn,P.funcs[f]?=some fn∧fn.body.isNone=false∧(fn.name== "runtime.NumGoroutine")=false
 run:∀ (S:Nat→Prop) (w:World) (vs:List Value),(∀b,S b→b<w.heap.size)→RVs S w vs args→
  Calls P f vs.toArray w fun e w'=>∃ v,e= .returned v∧bg w w'∧RA (fun b=>(S b∨w.heap.size≤b)∧b<w'.heap.size) w' (fun _=>undef) [] v (dQ res)
section
variable {P:Program}{C:Cx}{o:Oper}{σ:AS}
theorem dm{σ':AS}{β:Nat→Value}{a:Act}{w:World}(hi:Inv C σ' β a w):∀ {xs:List Operand} {ds:List DV},(∀x∈xs,RA (Dat C β σ'.objs w) w β σ'.objs (a.eval x) (ev σ x))→dp σ xs ds→RVs (Dat C β σ'.objs w) w (xs.map a.eval) ds
 | [],[],_,_=>⟨rfl,fun i h=>absurd h (by simp)⟩
 | x::xs,d::ds,he,⟨h1,h2⟩=>by
   obtain⟨h3,h4⟩:=dm hi (fun y hy=>he y (by simp[hy])) h2;refine⟨by simpa using h3,fun i h h'=>?_⟩;cases i with
   | zero=>
     exact h1.out (he x (by simp))
   | succ i=>exact h4 i (by simpa using h) (by simpa using h')
 | [],_::_,_,h=>h.elim
 | _::_,[],_,h=>h.elim
theorem Fn.exec{f:FuncId}{args res:List DV}{a:Act}{w:World}{xs:Array Operand}{ts:Array TypeId}(hF:Fn P f args res)(ho:o.op= .call {callee:= .value (.func f),args:=xs,argTypes:=ts }):(execOp a.eval o).run P w= .ok (.enter f (xs.toList.map a.eval).toArray) w:=by
 obtain⟨fn,h1,h2,h3⟩:=hF.body;unfold execOp;rw[ho];have he:a.eval (.func f)= .func (.func f) #[] #[]:=rfl;have h2':fn.body≠none:=by
  intro h;rw[h]at h2;cases h2
 have h3':fn.name≠ "runtime.NumGoroutine" :=by simpa using h3
 obtain⟨l⟩:=xs;simp[resolve,he,Deferred.ofValue,invoke,callFunc,h1,h2',h3']
theorem Loc.call{f:FuncId}{args res:List DV}{xs:Array Operand}{ts:Array TypeId}(hF:Fn P f args res)(ho:o.op= .call {callee:= .value (.func f),args:=xs,argTypes:=ts })(ha:dp σ xs.toList args):Loc P C o σ (dQ res):=by
 intro σ' hl hd a w K Q' ⟨β,hi⟩ hk;unfold Oper.wp;rw[hF.exec ho];have hmem:∀ x∈xs.toList,RA (Dat C β σ'.objs w) w β σ'.objs (a.eval x) (ev σ x):=fun x hx=>hl.ra hi (by rw[ho];simp only[Op.operands,Call.operands];simp at hx ⊢;exact .inr hx);have h1:=dm (σ:=σ) hi hmem ha;refine(hF.run _ w _ (fun b hb=>hb.2.1) h1).mono fun e w' ⟨v,he,hx,hv⟩=>?_;subst he;have hfin:=(hi.ext hx).put _ (dstOK.out hd) (gz (xs:=res) (RA.same (w':=w') hv fun b hb=>⟨⟨by
  rcases hb.1 with h | h
  ·exact h.1
  ·exact .inr (.inl (Nat.le_trans hi.size h)),hb.2,fun id o' hid hbl=>by
  rcases hb.1 with h | h
  ·exact h.2.2 id o' hid hbl
  ·have:=(hi.own id o' b hid hbl).2;omega⟩,rfl⟩))
 refine hk _ _ ⟨β,?_⟩;cases e:o.dst with
 | none=>rw[e]at hfin;exact hfin
 | some d=>rw[e]at hfin;exact hfin
theorem Loc.eI{f:FuncId}{args:List DV}{c:D}{xs:Array Operand}{ts:Array TypeId}(hF:Fn P f args [.d c])(ho:o.op= .call {callee:= .value (.func f),args:=xs,argTypes:=ts })(ha:dp σ xs.toList args):Loc P C o σ (.d c):=Loc.call hF ho ha
theorem Loc.jh{f:FuncId}{args:List DV}{cs:List D}{xs:Array Operand}{ts:Array TypeId}(hF:Fn P f args [.g cs])(ho:o.op= .call {callee:= .value (.func f),args:=xs,argTypes:=ts })(ha:dp σ xs.toList args):Loc P C o σ (.g cs):=Loc.call hF ho ha
theorem Loc.mU{f:FuncId}{args:List DV}{x y:DV}{l:List DV}{xs:Array Operand}{ts:Array TypeId}(hF:Fn P f args (x::y::l))(ho:o.op= .call {callee:= .value (.func f),args:=xs,argTypes:=ts })(ha:dp σ xs.toList args):Loc P C o σ (.t (x::y::l)):=Loc.call hF ho ha
def cR:Nat→List DV→List (Nat×AV)
 | _,[]=>[]
 | i,x::r=>(i,x.av)::cR (i+1) r
theorem eW:∀ (xs:List DV) (i t:Nat) (v:AV),af (cR i xs) t=some v→∃ j,t=i+j∧∃ h:j<xs.length,xs[j].av=v
 | [],i,t,v,h=>by simp[cR,af]at h
 | x::r,i,t,v,h=>by
   rw[cR,ai]at h;by_cases e:i=t
   ·rw[if_pos e]at h;injection h with h;exact⟨0,by omega,by simp,h⟩
   ·rw[if_neg e]at h;obtain⟨j,h1,h2,h3⟩:=eW r (i+1) t v h;exact⟨j+1,by omega,by simpa using h2,by simpa using h3⟩
def cellD(O:List (Nat×AO)):AV→D→Prop
 | .d c,c'=>c'=c∨c'=c.fg
 | .r id g,.l xs=>∃ e k,af O id=some (.row g e k xs)
 | _,_=>False
def cellsD(O:List (Nat×AO)):List AV→List D→Prop
 | [],[]=>True
 | v::vs,d::ds=>cellD O v d∧cellsD O vs ds
 | _,_=>False
inductive ResIs (P:Program) (σ:AS):ResultVar→DV→Prop
 | d {t:Nat} {v:AV} {c:D} (h:af σ.env t=some v) (hc:cellD σ.objs v c):ResIs P σ (.tmp t) (.d c)
 | g {t:Nat} {cs cs':List D} (h:af σ.env t=some (.g cs)) (hc:cs'=cs∨cs'=cs.map D.fg):ResIs P σ (.tmp t) (.g cs')
 | c1 {t T id:Nat} {T':TypeId} {v:AV} {cs:List AV} {c:D} {n:Nat} (h:af σ.env t=some (.p id 0)) (hO:af σ.objs id=some (.box T' (v::cs))) (hS:Sz P T false n) (hc:cellD σ.objs v c):ResIs P σ (.cell t T) (.d c)
 | cn {t T id:Nat} {T':TypeId} {cs:List AV} {ds:List D} {n:Nat} (h:af σ.env t=some (.p id 0)) (hO:af σ.objs id=some (.box T' cs)) (hS:Sz P T true n) (hn:cs.length=n) (hc:cellsD σ.objs cs ds):ResIs P σ (.cell t T) (.g ds)
def dB(P:Program)(σ:AS):List ResultVar→List DV→Prop
 | [],[]=>True
 | r::rs,d::ds=>ResIs P σ r d∧dB P σ rs ds
 | _,_=>False
def pg(C:Cx)(w:World):Nat→Prop:=fun b=>(C.S0 b∨C.w0.heap.size≤b∨C.M b)∧b<w.heap.size
theorem qd{S S':Nat→Prop}{w:World}{β:Nat→Value}{O:List (Nat×AO)}{id g:Nat}{e:TypeId}{k:Nat}{xs:List (List D)}(h:RO S w β O id (.row g e k xs))(hs:∀ b,S b→S' b)(hb:∀ b,aQ (β id)=some b→S' b):RD S' w (β id) (.l xs):=by
 obtain⟨css,h1,h2,h3,hown⟩:=h;obtain⟨_,ad,c,hv,hc,hm⟩:=lq hown;rw[hv];refine RD.kC rfl hc hm h1 (fun i h=>h3 _ (List.getElem_mem h)) (fun i h h'=>(h2 i h h').mono hs) fun hp=>?_;rcases hown.2 with ⟨h0,h5⟩ | ⟨gb,cap,cur,hv',_,_,_⟩
 ·omega
 ·rw[hv]at hv';injection hv' with e1 e2 e3;subst e1;refine⟨gb,0,rfl,hb gb (by rw[hv];rfl),fun i hi=>?_⟩;have:=n8 h1 h2 h3 hown hv i hi;rwa[Nat.zero_add]
theorem cellD.out{β:Nat→Value}{a:Act}{w:World}(hi:Inv C σ β a w){u:Value}{v:AV}{c:D}(h:cellD σ.objs v c)(hu:RA (Dat C β σ.objs w) w β σ.objs u v):RD (pg C w) w u c:=by
 have hS:∀ b,Dat C β σ.objs w b→pg C w b:=fun b hb=>⟨hb.1,hb.2.1⟩
 cases v with
 | d c0=>
   have hu:RD _ w u c0:=hu;have h:c=c0∨c=c0.fg:=by cases c<;>exact h
   rcases h with h | h
   ·subst h;exact hu.mono hS
   ·subst h;exact hu.fg.mono hS
 | r id g=>
   cases c with
   | l xs=>
     obtain⟨e,k,hO⟩:=h;rw[(hu g e k xs hO).2 rfl];exact qd (hi.obj id _ hO) hS fun b hb=>by
      have:=hi.own id _ b hO hb;exact⟨by rcases this.1 with h | h;exact .inr (.inr h);exact .inr (.inl h),this.2⟩
   | _=>exact h.elim
 | _=>cases c<;>exact h.elim
theorem cellsD.out{β:Nat→Value}{a:Act}{w:World}(hi:Inv C σ β a w):∀ {us:List Value} {vs:List AV} {ds:List D},cellsD σ.objs vs ds→us.length=vs.length→(∀i (h:i<us.length) (h':i<vs.length),RA (Dat C β σ.objs w) w β σ.objs us[i] vs[i])→RDs (pg C w) w us ds
 | [],[],[],_,_,_=> .nil
 | u::us,v::vs,d::ds,⟨h1,h2⟩,hl,hr=> .cons (h1.out hi (hr 0 (by simp) (by simp))) (cellsD.out hi h2 (by simpa using hl) fun i h h'=>hr (i+1) (by simpa using h) (by simpa using h'))
 | [],_::_,_,_,h,_=>by simp at h
 | _::_,[],_,_,h,_=>by simp at h
 | _,[],_::_,h,_,_=>h.elim
 | _,_::_,[],h,_,_=>h.elim
def gN(tmps:Array Value)(r:ResultVar):Sem Value:=match r with
 | .tmp t=>pure (tmps.getD t undef)
 | .cell ad t=>do loadVar t (←asAddr (tmps.getD ad undef))
theorem dW(fn:Func)(tmps:Array Value):results fn tmps=(do
  let vs ←fn.results.mapM (gN tmps)
  pure (if h:vs.size=1 then vs[0]else .tuple vs)):=rfl
theorem ResIs.out{β:Nat→Value}{a:Act}{w:World}(hi:Inv C σ β a w){r:ResultVar}{x:DV}(h:ResIs P σ r x):
  ∃u,Sem.run P (gN a.tmps r) w= .ok u w∧RV (pg C w) w u x:=by
 have hS:∀ b,Dat C β σ.objs w b→pg C w b:=fun b hb=>⟨hb.1,hb.2.1⟩
 cases h with
 | d h hc=>
   obtain⟨u,h1,h2⟩:=hi.env _ _ h;exact⟨u,by simp[gN,Array.getD_eq_getD_getElem?,h1],hc.out hi h2⟩
 | g h hc=>
   obtain⟨u,h1,us,h2,h3⟩:=hi.env _ _ h;refine⟨u,by simp[gN,Array.getD_eq_getD_getElem?,h1],us,h2,?_⟩;rcases hc with hc | hc
   ·subst hc;exact h3.mono hS
   ·subst hc;exact h3.fg.mono hS
 | @c1 t T id T' v cs c n h hO hSz hc=>
   obtain⟨u,h1,h2⟩:=hi.env _ _ h;obtain⟨b,hb,hu⟩:=h2 _ _ hO;obtain⟨b',us,hb',hh,hlen,hone,hr⟩:=hi.obj id _ hO;rw[hb]at hb';cases hb';have hlt:0<us.length:=by rw[hlen];simp
   obtain⟨d,hd1,hd2⟩:=hSz.u;have hl:=dE (P:=P) hd1 hd2 b 0 us[0] w (by simp[World.cell?,hh,hlt]);refine⟨us[0],?_,hc.out hi (hr 0 hlt (by simp))⟩;simp only[Instr.loadAt,Instr.sureAddr,Sem.run_bind,Sem.run_pure,Result.andThen_ok]at hl;simp[gN,Array.getD_eq_getD_getElem?,h1,hu,asAddr,hl]
 | @cn t T id T' cs ds n h hO hSz hn hc=>
   obtain⟨u,h1,h2⟩:=hi.env _ _ h;obtain⟨b,hb,hu⟩:=h2 _ _ hO;obtain⟨b',us,hb',hh,hlen,hone,hr⟩:=hi.obj id _ hO;rw[hb]at hb';cases hb';obtain⟨d,hd1,hd2⟩:=hSz.u;have hrg:w.rangeAt b 0 us:=by
    have:=gR hh 0 us.length;simpa using this
   have hl:=run_loadVar_mid (P:=P) w b 0 T us d hrg hd1 hd2 (by rw[hSz.s,←hn,hlen]);refine⟨.agg us.toArray,?_,us,rfl,cellsD.out hi hc hlen hr⟩;simp[gN,Array.getD_eq_getD_getElem?,h1,hu,asAddr,hl]
theorem tV{β:Nat→Value}{a:Act}{w:World}(hi:Inv C σ β a w):∀ {rs:List ResultVar} {ds:List DV},dB P σ rs ds→∃ us:List Value,Sem.run P (rs.mapM (gN a.tmps)) w= .ok us w∧us.length=ds.length∧∀ i (h:i<us.length) (h':i<ds.length),RV (pg C w) w us[i] ds[i]
 | [],[],_=>⟨[],by simp,rfl,fun i h=>absurd h (by simp)⟩
 | r::rs,d::ds,⟨h1,h2⟩=>by
   obtain⟨u,q1,q2⟩:=h1.out hi;obtain⟨us,r1,r2,r3⟩:=tV hi h2;refine⟨u::us,?_,by simp[r2],fun i h h'=>?_⟩
   ·simp only[List.mapM_cons,Sem.run_bind,q1,r1,Result.andThen_ok];rfl
   ·cases i with
    | zero=>exact q2
    | succ i=>exact r3 i (by simpa using h) (by simpa using h')
 | [],_::_,h=>h.elim
 | _::_,[],h=>h.elim
def Ret(P:Program)(rs:List ResultVar)(res:List DV):Exit→AS→Prop
 | .ret,σ=>dB P σ rs res
 | .normal,σ=>dB P σ rs res
 | _,_=>False
theorem Ret.run{fn:Func}{res:List DV}{β:Nat→Value}{a:Act}{w:World}(hi:Inv C σ β a w)(h:dB P σ fn.results.toList res):∃ v,(results fn a.tmps).run P w= .ok v w∧RA (pg C w) w (fun _=>undef) [] v (dQ res):=by
 obtain⟨us,h1,h2,h3⟩:=tV hi h;have hm:Sem.run P (fn.results.mapM (gN a.tmps)) w= .ok us.toArray w:=by
  rw[Array.mapM_eq_mapM_toList];simp only[Sem.run_map,h1,Result.andThen_ok]
 match us,res,h2,h3 with
 | [u],[x],_,h3=>
   refine⟨u,?_,?_⟩
   ·rw[dW,Sem.run_bind,hm];rfl
   ·have:=h3 0 (by simp) (by simp);cases x<;>exact this
 | [],[],_,h3=>exact⟨.tuple #[],by rw[dW,Sem.run_bind,hm];rfl,[],rfl,rfl,h3⟩
 | u1::u2::us,x1::x2::xs,h2,h3=>
   refine⟨.tuple (u1::u2::us).toArray,?_,_,rfl,h2,h3⟩;rw[dW,Sem.run_bind,hm];simp
theorem Fn.of{f:FuncId}{fn:Func}{c:Code}{args res:List DV}{nt:Nat}{rs:List ResultVar}(hf:P.funcs[f]?=some fn)(hb:fn.body=some c)(hname:(fn.name== "runtime.NumGoroutine")=false)(hntm:fn.ntmps=nt)(hrs:fn.results=rs.toArray)(hnt:Nat.ble args.length nt=true)
  (h:∀ w0 S0,AC P ⟨w0,S0,[],nt⟩ c (Ret P rs res) ⟨cR 0 args,[]⟩):Fn P f args res:=by
 subst hntm;rw[Nat.ble_eq]at hnt;have hrs':fn.results.toList=rs:=by rw[hrs]
 refine⟨⟨fn,hf,by rw[hb];rfl,hname⟩,fun S w vs hS hvs=>?_⟩;refine calls_of_wp hf hb ?_
 let C:Cx:=⟨w,S,[],fn.ntmps⟩
 have hst:St C ⟨cR 0 args,[]⟩ {tmps:=vs.toArray++Array.replicate (fn.ntmps-vs.toArray.size) undef,defers:=[] } w:=by
  refine⟨fun _=>undef,rfl,?_,rfl,rfl,rfl,Nat.le_refl _,fun _ _ _=>rfl,fun t v ht=>?_,fun id o h=>by simp[af]at h,fun i j oi oj b h=>by simp[af]at h,fun i oi b h=>by simp[af]at h,fun i x o h=>by simp[C]at h⟩
  ·simp only[Array.size_append,List.size_toArray,Array.size_replicate];rw[hvs.1];show args.length+(fn.ntmps-args.length)=fn.ntmps;omega
  ·obtain⟨j,h1,h2,h3⟩:=eW args 0 t v ht;have hj:j<vs.length:=by rw[hvs.1];exact h2
   have ht':t=j:=by omega
   subst ht';refine⟨vs[t],?_,?_⟩
   ·rw[Array.getElem?_append_left (by simpa using hj)];simp[hj]
   ·have:=(hvs.2 t hj h2).keep (S':=Dat C (fun _=>undef) [] w) (w':=w) fun b hb=>⟨⟨.inl hb,hS b hb,fun id o h=>by simp[af]at h⟩,rfl⟩
    rw[←h3];cases e:args[t]with
    | d c=>rw[e]at this;exact this
    | g cs=>rw[e]at this;exact this
 refine Code.wp_mono ?_ (h w S _ w hst);rintro e a' w' ⟨σ,h1,β,hi⟩;have hfin:dB P σ rs res→a'.defers=[]∧∃ v,(results fn a'.tmps).run P w'= .ok v w'∧∃ v',Ending.returned v= .returned v'∧bg w w'∧RA (fun b=>(S b∨w.heap.size≤b)∧b<w'.heap.size) w' (fun _=>undef) [] v' (dQ res):=fun hr=>by
  obtain⟨v,q1,q2⟩:=Ret.run hi (hrs'▸hr:dB P σ fn.results.toList res);refine⟨hi.defs,v,q1,v,rfl,⟨hi.os,hi.tape,hi.output,hi.size,fun k hk=>hi.fr k hk (by rintro ⟨_,h,_⟩;cases h)⟩,RA.same (w:=w') q2 fun b hb=>⟨⟨?_,hb.2⟩,rfl⟩⟩;rcases hb.1 with h | h | h
  ·exact .inl h
  ·exact .inr h
  ·obtain⟨_,h,_⟩:=h;cases h
 cases e with
 | ret=>exact hfin h1
 | normal=>exact hfin h1
 | _=>exact h1.elim
theorem Inv.u9{β:Nat→Value}{a:Act}{w:World}(h:Inv C σ β a w)(id:Nat)(hid:id<C.nt)(hn:NoRef σ id)(e k:Nat):Inv C ⟨σ.env,(id,.row 0 e k [])::σ.objs⟩ (ao β id (.slice none 0 0)) a w:=
 h.fresh id hid hn (.row 0 e k []) (Below.refl _ _) _ (fun b hb=>by cases hb) fun _=>⟨[],rfl,fun i h=>absurd h (by simp),by simp,by simpa[ao] using World.ownsRow_nil w 0 e k⟩
def idOK(C:Cx)(σ:AS)(id:Nat):Bool:=Nat.blt id C.nt&&noRef σ id
theorem idOK.out{id:Nat}(h:idOK C σ id=true):id<C.nt∧NoRef σ id:=by
 unfold idOK at h;rw[Bool.and_eq_true]at h;exact⟨by have:=h.1;rw[Nat.blt_eq]at this;exact this,noRef.out h.2⟩
theorem AC.j7{c:Code}{Q:Exit→AS→Prop}(t id e k:Nat)(ht:af σ.env t=some (.d .n))(hn:idOK C σ id=true)(h:AC P C c Q ⟨(t,.r id 0)::σ.env,(id,.row 0 e k [])::σ.objs⟩):AC P C c Q σ:=fun a w hs=>by
 obtain⟨β,hi⟩:=hs;refine h a w ⟨ao β id (.slice none 0 0),?_⟩;have h1:=hi.u9 id (idOK.out hn).1 (idOK.out hn).2 e k;refine⟨h1.defs,h1.nt,h1.os,h1.tape,h1.output,h1.size,h1.fr,fun t' v hv=>?_,h1.obj,h1.dis,h1.own,h1.pin⟩;rw[ai]at hv;by_cases e':t=t'
 ·subst e';rw[if_pos rfl]at hv;injection hv with hv;subst hv;obtain⟨u,q1,q2⟩:=hi.env t _ ht;refine⟨u,q1,fun g' e2 k2 xs hO=>?_⟩;rw[ai,if_pos rfl]at hO;cases hO;refine⟨Nat.le_refl _,fun _=>?_⟩;cases q2;simp[ao]
 ·rw[if_neg e']at hv;exact h1.env t' v hv
theorem AC.mj{c:Code}{Q:Exit→AS→Prop}(id0 off id e k:Nat){T:TypeId}{cs:List AV}(hO:af σ.objs id0=some (.box T cs))(hc:cs[off]?=some (.d .n))(hn:idOK C σ id=true)(h:AC P C c Q ⟨σ.env,(id0,.box T (cs.set off (.r id 0)))::(id,.row 0 e k [])::σ.objs⟩):AC P C c Q σ:=fun a w hs=>by
 obtain⟨β,hi⟩:=hs;have hn':=(idOK.out hn).2;have h1:=hi.u9 id (idOK.out hn).1 hn' e k;have hne:id0≠id:=(hn'.obj id0 _ hO).1;have hO1:af ((id,AO.row 0 e k [])::σ.objs) id0=some (.box T cs):=by rw[ai,if_neg (Ne.symm hne)];exact hO
 refine h a w ⟨_,h1.di (w':=w) id0 (.box T cs) (.box T (cs.set off (.r id 0))) hO1 (ao β id (.slice none 0 0) id0) rfl rfl rfl (Nat.le_refl _) (fun _ _ _=>rfl) (fun b hb=>⟨.inl hb,(h1.own id0 _ b hO1 hb).2⟩) rfl fun hD hA=>?_⟩;obtain⟨b,us,q1,q2,q3,q4,q5⟩:=h1.obj id0 _ hO1;refine⟨b,us,by simpa[ao] using q1,q2,by simpa using q3,q4,fun i hi1 hi2=>?_⟩;have hi3:i<cs.length:=by simpa using hi2
 by_cases e':off=i
 ·subst e';have hcs:cs[off]= .d .n:=by
   rw[List.getElem?_eq_getElem hi3]at hc;injection hc
  have:=q5 off hi1 hi3;rw[hcs]at this;simp only[List.getElem_set_self];intro g' e2 k2 xs hO2;rw[ai,if_neg hne,ai,if_pos rfl]at hO2;cases hO2;refine⟨Nat.le_refl _,fun _=>?_⟩;generalize us[off]=u at this;cases this;simp[ao,Ne.symm hne]
 ·rw[List.getElem_set_ne e'];exact hA (q5 i hi1 hi3)
theorem Inv.kill{β:Nat→Value}{a:Act}{w:World}(h:Inv C σ β a w)(id:Nat):Inv C ⟨σ.env,(id,.dead)::σ.objs⟩ (ao β id undef) a w∧(∀b,Dat C β σ.objs w b→Dat C (ao β id undef) ((id,.dead)::σ.objs) w b)∧(∀o b,af σ.objs id=some o→aQ (β id)=some b→Dat C (ao β id undef) ((id,.dead)::σ.objs) w b):=by
 have hsub:∀ i o,af ((id,AO.dead)::σ.objs) i=some o→(i=id∧o= .dead)∨(i≠id∧af σ.objs i=some o):=fun i o hi=>by
  rw[ai]at hi;by_cases e:id=i
  ·rw[if_pos e]at hi;injection hi with hi;exact .inl ⟨e.symm,hi.symm⟩
  ·rw[if_neg e]at hi;exact .inr ⟨Ne.symm e,hi⟩
 have hbe:∀ i,i≠id→ao β id undef i=β i:=fun i hi=>by simp[ao,hi]
 have hbi:ao β id undef id=undef:=by simp[ao]
 have hD:∀ b,Dat C β σ.objs w b→Dat C (ao β id undef) ((id,.dead)::σ.objs) w b∧w.heap[b]?=w.heap[b]?:=fun b hb=>⟨⟨hb.1,hb.2.1,fun i o hi=>by
  rcases hsub i o hi with ⟨e,_⟩ | ⟨e,h2⟩
  ·subst e;rw[hbi];simp[aQ,undef]
  ·rw[hbe i e];exact hb.2.2 i o h2⟩,rfl⟩
 have hA:∀ {u:Value} {x:AV},RA (Dat C β σ.objs w) w β σ.objs u x→RA (Dat C (ao β id undef) ((id,.dead)::σ.objs) w) w (ao β id undef) ((id,.dead)::σ.objs) u x:=fun h=>
  h.keep hD (fun i T cs hi=>by
   rcases hsub i _ hi with ⟨_,h2⟩ | ⟨e,h2⟩
   ·cases h2
   ·exact⟨⟨T,cs,h2⟩,hbe i e⟩) (fun i g e k xs hi=>by
   rcases hsub i _ hi with ⟨_,h2⟩ | ⟨e',h2⟩
   ·cases h2
   ·exact⟨g,e,k,xs,h2,Nat.le_refl _,fun _=>⟨rfl,hbe i e'⟩⟩)
 refine⟨⟨h.defs,h.nt,h.os,h.tape,h.output,h.size,h.fr,fun t v ht=>?_,fun i o hi=>?_,fun i j oi oj b h1 h2 h3 h4=>?_,fun i oi b h1 h3=>?_,fun i x o h1 h2 h3=>?_⟩,fun b hb=>(hD b hb).1,fun o b ho hb=>?_⟩
 ·obtain⟨u,h1,h2⟩:=h.env t v ht;exact⟨u,h1,hA h2⟩
 ·rcases hsub i o hi with ⟨_,h2⟩ | ⟨e,h2⟩
  ·subst h2;trivial
  ·have:=h.obj i o h2;cases o with
   | box T cs=>
     obtain⟨b,us,h1,h2,h3,h4,h5⟩:=this;exact⟨b,us,by rw[hbe i e];exact h1,h2,h3,h4,fun i h h'=>hA (h5 i h h')⟩
   | row g e2 k xs=>
     obtain⟨css,h1,h2,h3,h4⟩:=this;exact⟨css,h1,fun i h h'=>(h2 i h h').mono fun b hb=>(hD b hb).1,h3,by rw[hbe i e];exact h4⟩
   | dead=>trivial
   | own x R=>exact⟨by rw[hbe i e];exact this.1,this.2.2 _ _ _ _ this.2.1 hD fun b _=>rfl,this.2.2⟩
 ·rcases hsub i oi h1 with ⟨e,_⟩ | ⟨e,h1⟩
  ·subst e;rw[hbi]at h3;simp[aQ,undef]at h3
  ·rcases hsub j oj h2 with ⟨e2,_⟩ | ⟨e2,h2⟩
   ·subst e2;rw[hbi]at h4;simp[aQ,undef]at h4
   ·rw[hbe i e]at h3;rw[hbe j e2]at h4;exact h.dis i j oi oj b h1 h2 h3 h4
 ·rcases hsub i oi h1 with ⟨e,_⟩ | ⟨e,h1⟩
  ·subst e;rw[hbi]at h3;simp[aQ,undef]at h3
  ·rw[hbe i e]at h3;exact h.own i oi b h1 h3
 ·rcases hsub _ o h2 with ⟨_,e⟩ | ⟨e,h2⟩
  ·subst e;cases h3
  ·rw[hbe _ e];exact h.pin i x o h1 h2 h3
 ·have h1:=h.own id o b ho hb;refine⟨by rcases h1.1 with h | h;exact .inr (.inr h);exact .inr (.inl h),h1.2,fun i oi hi hbi2=>?_⟩;rcases hsub i oi hi with ⟨e,_⟩ | ⟨e,h2⟩
  ·subst e;rw[hbi]at hbi2;simp[aQ,undef]at hbi2
  ·rw[hbe i e]at hbi2;exact e (h.dis i id oi o b h2 ho hbi2 hb)
theorem St.br{a:Act}{w:World}(t:Nat){id g:Nat}{e:TypeId}{k:Nat}{xs:List (List D)}(ht:af σ.env t=some (.r id g))(hO:af σ.objs id=some (.row g e k xs))(hs:St C σ a w):St C ⟨(t,.d (.l xs))::σ.env,(id,AO.dead)::σ.objs⟩ a w:=by
 obtain⟨β,hi⟩:=hs;obtain⟨h1,h2,h3⟩:=hi.kill id;refine⟨ao β id undef,h1.defs,h1.nt,h1.os,h1.tape,h1.output,h1.size,h1.fr,fun t' v hv=>?_,h1.obj,h1.dis,h1.own,h1.pin⟩;rw[ai]at hv;by_cases e':t=t'
 ·subst e';rw[if_pos rfl]at hv;injection hv with hv;subst hv;obtain⟨u,q1,q2⟩:=hi.env t _ ht;refine⟨u,q1,?_⟩;rw[(q2 g e k xs hO).2 rfl];exact qd (hi.obj id _ hO) h2 (fun b hb=>h3 _ b hO hb)
 ·rw[if_neg e']at hv;exact h1.env t' v hv
theorem St.gT{a:Act}{w:World}(id0 off:Nat){id g:Nat}{e:TypeId}{k:Nat}{xs:List (List D)}{T:TypeId}{cs:List AV}(hB:af σ.objs id0=some (.box T cs))(hc:cs[off]?=some (.r id g))(hO:af σ.objs id=some (.row g e k xs))(hs:St C σ a w):St C ⟨σ.env,(id0,.box T (cs.set off (.d (.l xs))))::(id,AO.dead)::σ.objs⟩ a w:=by
 obtain⟨β,hi⟩:=hs;obtain⟨h1,h2,h3⟩:=hi.kill id;have hne:id0≠id:=fun e=>by subst e;rw[hB]at hO;cases hO
 have hB1:af ((id,AO.dead)::σ.objs) id0=some (.box T cs):=by rw[ai,if_neg (Ne.symm hne)];exact hB
 refine⟨_,h1.di (w':=w) id0 (.box T cs) (.box T (cs.set off (.d (.l xs)))) hB1 (ao β id undef id0) rfl rfl rfl (Nat.le_refl _) (fun _ _ _=>rfl) (fun b hb=>⟨.inl hb,(h1.own id0 _ b hB1 hb).2⟩) rfl fun hD hA=>?_⟩;obtain⟨b,us,q1,q2,q3,q4,q5⟩:=hi.obj id0 _ hB;obtain⟨b1,us1,r1,r2,r3,r4,r5⟩:=h1.obj id0 _ hB1;refine⟨b1,us1,by simpa[ao] using r1,r2,by simpa using r3,r4,fun i hi1 hi2=>?_⟩;have hi3:i<cs.length:=by simpa using hi2
 have hus:us1=us:=by
  have hb0:ao β id undef id0=β id0:=by simp[ao,hne]
  rw[hb0,q1]at r1;cases r1;rw[q2]at r2;injection r2 with r2;injection r2 with r2;have:=congrArg Array.toList r2;simpa using this.symm
 subst hus;by_cases e':off=i
 ·subst e';have hcs:cs[off]= .r id g:=by
   rw[List.getElem?_eq_getElem hi3]at hc;injection hc
  have:=q5 off hi1 hi3;rw[hcs]at this;simp only[List.getElem_set_self];rw[(this g e k xs hO).2 rfl];exact RD.mono (qd (hi.obj id _ hO) h2 (fun b hb=>h3 _ b hO hb)) fun b hb=>(hD b hb).1
 ·rw[List.getElem_set_ne e'];exact hA (r5 i hi1 hi3)
theorem Ch.br{ops:Array Oper}{fin:List Inf→Prop}{K:AS→Prop}{rest:List Oper}(t:Nat){id g:Nat}{e:TypeId}{k:Nat}{xs:List (List D)}(ht:af σ.env t=some (.r id g))(hO:af σ.objs id=some (.row g e k xs))(h:Ch P C ops fin K none rest ⟨(t,.d (.l xs))::σ.env,(id,AO.dead)::σ.objs⟩):Ch P C ops fin K none rest σ:= .weak _ (fun _ _ hs=>hs.br t ht hO) h
theorem Ch.gT{ops:Array Oper}{fin:List Inf→Prop}{K:AS→Prop}{rest:List Oper}(id0 off:Nat){id g:Nat}{e:TypeId}{k:Nat}{xs:List (List D)}{T:TypeId}{cs:List AV}(hB:af σ.objs id0=some (.box T cs))(hc:cs[off]?=some (.r id g))(hO:af σ.objs id=some (.row g e k xs))(h:Ch P C ops fin K none rest ⟨σ.env,(id0,.box T (cs.set off (.d (.l xs))))::(id,AO.dead)::σ.objs⟩):Ch P C ops fin K none rest σ:= .weak _ (fun _ _ hs=>hs.gT id0 off hB hc hO) h
theorem AC.br{c:Code}{Q:Exit→AS→Prop}(t:Nat){id g:Nat}{e:TypeId}{k:Nat}{xs:List (List D)}(ht:af σ.env t=some (.r id g))(hO:af σ.objs id=some (.row g e k xs))(h:AC P C c Q ⟨(t,.d (.l xs))::σ.env,(id,AO.dead)::σ.objs⟩):AC P C c Q σ:= .weak _ (fun _ _ hs=>hs.br t ht hO) h
theorem AC.gT{c:Code}{Q:Exit→AS→Prop}(id0 off:Nat){id g:Nat}{e:TypeId}{k:Nat}{xs:List (List D)}{T:TypeId}{cs:List AV}(hB:af σ.objs id0=some (.box T cs))(hc:cs[off]?=some (.r id g))(hO:af σ.objs id=some (.row g e k xs))(h:AC P C c Q ⟨σ.env,(id0,.box T (cs.set off (.d (.l xs))))::(id,AO.dead)::σ.objs⟩):AC P C c Q σ:= .weak _ (fun _ _ hs=>hs.gT id0 off hB hc hO) h
theorem Do.EX{v:AV}{R X:List Nat}(t:Nat){id g:Nat}{e:TypeId}{k:Nat}{xs:List (List D)}(ht:af σ.env t=some (.r id g))(hO:af σ.objs id=some (.row g e k xs))(hrd:t∈Oper.rd o)(hX:id∉X)
  (h:Do P C o ⟨(t,.d (.l xs))::σ.env,(id,.dead)::σ.objs⟩ v ⟨R,X,[],none⟩):Do P C o σ v ⟨id::R,X,[(id,.dead)],none⟩:=by
 intro σ' hl hd a w K Q' hs hk;have ht':af σ'.env t=some (.r id g):=by
  rcases hl.env t hrd _ ht with h | h
  ·cases h
  ·exact h
 have hO':af σ'.objs id=some (.row g e k xs):=by rw[hl.rd id (by simp)];exact hO
 refine h _ ⟨fun t2 h2 v2 hv2=>?_,fun i hi=>?_,fun i hi T cs hb=>?_,fun d hd=>by cases hd⟩ hd a w K Q' (hs.br t ht' hO') fun a' w' hs'=>hk a' w' ?_
 ·rw[ai]at hv2 ⊢;by_cases e':t=t2
  ·rw[if_pos e']at hv2 ⊢;exact .inr hv2
  ·rw[if_neg e']at hv2 ⊢;exact hl.env t2 h2 v2 hv2
 ·rw[ai,ai];by_cases e':id=i
  ·rw[if_pos e',if_pos e']
  ·rw[if_neg e',if_neg e'];exact hl.rd i (by simp[hi])
 ·rw[ai]at hb ⊢;have hne:id≠i:=fun e=>hX (e▸hi);rw[if_neg hne]at hb ⊢;exact hl.box i hi T cs hb
 ·
  obtain⟨β,hi⟩:=hs';refine⟨β,hi.defs,hi.nt,hi.os,hi.tape,hi.output,hi.size,hi.fr,fun t2 v2 hv2=>?_,hi.obj,hi.dis,hi.own,hi.pin⟩;by_cases e':t=t2
  ·subst e';have hlk:af (AS.di σ' o.dst v [(id,.dead)]).env t=some v2:=hv2;rw[kA]at hlk;by_cases ed:o.dst=some t
   ·rw[if_pos ed]at hlk;exact hi.env t v2 (by rw[kA,if_pos ed];exact hlk)
   ·rw[if_neg ed,ht']at hlk;injection hlk with hlk;subst hlk;obtain⟨u,q1,q2⟩:=hi.env t (.d (.l xs)) (by rw[kA,if_neg ed,ai,if_pos rfl]);refine⟨u,q1,fun g2 e2 k2 xs2 hO2=>?_⟩;have:af ((id,AO.dead)::σ'.objs) id=some (.row g2 e2 k2 xs2):=hO2;rw[ai,if_pos rfl]at this;cases this
  ·refine hi.env t2 v2 ?_;rw[kA]at hv2 ⊢;by_cases ed:o.dst=some t2
   ·rw[if_pos ed]at hv2 ⊢;exact hv2
   ·rw[if_neg ed]at hv2 ⊢;rw[ai,if_neg e'];exact hv2
end
structure Wk(q:Prop):Prop where
 out:q
theorem wk{p q:Prop}(k:q)(hs:Wk q→p:=by
  intro k
  try (first | intro K ms hms hK | intro K hK)
  repeat (first
   | refine Ch.no rfl rfl ?_
   | refine Ch.iX rfl rfl ?_
   | ((first | apply Ch.go | apply Ch.ah);exact rfl;exact rfl;first
     | exact Loc.move (v:= .d _) rfl rfl
     | exact Loc.assign (v:= .d _) rfl rfl
     | exact Loc.c7 rfl rfl rfl rfl
     | exact Loc.cU rfl rfl rfl
     | exact Loc.cY rfl rfl rfl
     | exact Loc.cV rfl rfl
     | exact Loc.bh (v:= .d _) rfl rfl rfl
     | exact Loc.bk (v:= .d _) rfl rfl rfl
     | exact Loc.cz rfl rfl rfl rfl (by kernel_rfl)
     | exact Loc.cZ rfl rfl rfl
     | exact Loc.cQ rfl rfl rfl rfl
     | exact Loc.ea rfl rfl rfl rfl (by assumption) rfl
     | exact Loc.fN rfl rfl
     | exact Loc.fP rfl rfl
     | exact Loc.fM rfl rfl rfl
     | exact Loc.len rfl rfl
     | exact Loc.eb rfl rfl rfl (by omega)
     | exact Loc.eG rfl rfl rfl (by omega)
     | exact Loc.ec rfl rfl rfl (by omega)
     | exact Loc.eE rfl rfl rfl (by omega)
     | exact Loc.eP rfl rfl rfl (by omega)
     | exact Loc.eM rfl rfl rfl (by omega)
     | exact Loc.eD rfl rfl rfl (by omega)
     | exact Loc.eF rfl rfl rfl (by omega)
     | exact Loc.gn rfl rfl rfl (by omega)
     | exact Loc.gp rfl rfl rfl (by omega)
     | exact Loc.gG rfl rfl rfl (by omega)
     | exact Loc.gH rfl rfl rfl (by omega)
     | exact Loc.add rfl rfl rfl (IntWalk.i64_in _ (by omega))
     | exact Loc.sub rfl rfl rfl (IntWalk.i64_in _ (by omega))
     | exact Loc.fL rfl rfl
     | exact Loc.fJ rfl rfl
     | exact Loc.cW rfl rfl rfl
     | exact Loc.c8 rfl rfl rfl (by assumption) rfl
     | exact Loc.cB rfl rfl rfl rfl rfl (by omega) rfl
     | exact Loc.move (v:= .g _) rfl rfl
     | exact Loc.move (v:= .p _ _) rfl rfl
     | exact Loc.move (v:= .r _ _) rfl rfl
     | exact Loc.move (v:= .t _) rfl rfl
     | exact Loc.assign (v:= .g _) rfl rfl
     | exact Loc.assign (v:= .r _ _) rfl rfl
     | exact Loc.assign (v:= .p _ _) rfl rfl
     | exact Loc.extract (v:= .d _) rfl rfl rfl rfl
     | exact Loc.extract (v:= .g _) rfl rfl rfl rfl
     | exact Loc.bh (v:= .g _) rfl rfl rfl
     | exact Loc.bk (v:= .g _) rfl rfl rfl
     | exact Loc.move (v:= .un) rfl rfl
     | exact Loc.build rfl rfl rfl rfl
     | exact Loc.df rfl rfl rfl rfl rfl rfl rfl)
   | refine Ch.eO (hK _ ?_)
   | ((first | apply Ch.st | apply Ch.aU);exact rfl;exact rfl;(first
     | exact Do.aC rfl rfl rfl rfl .g rfl rfl rfl
     | exact Do.aC rfl rfl rfl rfl .d rfl rfl rfl
     | exact Do.aC rfl rfl rfl rfl (.r rfl) rfl rfl rfl);exact rfl;exact rfl)
   | ((first | apply Ch.ef | apply Ch.bU);exact rfl;exact rfl;(first
     | exact Do.alloc rfl rfl rfl
     | exact Do.box rfl rfl rfl .g rfl
     | exact Do.box rfl rfl rfl .d rfl
     | exact Do.fI rfl rfl
     | exact Do.ck rfl rfl rfl rfl rfl rfl (by first | omega | (simp;omega))
     | exact Do.bS rfl rfl rfl rfl rfl rfl);exact rfl;exact rfl)
   | refine Ch.fK (by rw[hms];kernel_rfl) (hK _ ?_)
   | refine Ch.iY rfl rfl ?_
   | refine AC.seq ?_
   | (refine AC.mm (by decide+kernel) ?_;intro K hK)
   | (refine AC.ox (by decide+kernel) ?_;intro K hK)
   | (refine AC.qG (by kernel_rfl) (by decide+kernel) ?_;intro K ms hms hK)
   | (refine AC.pD (by kernel_rfl) (by decide+kernel) ?_;intro K ms hms hK)
   | refine AC.jg rfl ?_
   | refine AC.ji rfl ?_
   | refine AC.block ?_
   | refine AC.exit ?_
   | refine AC.ret ?_
   | refine AC.skip ?_)
  first
   | exact k.out
   | (revert K;exact k.out)
   | (revert K ms;exact k.out)):p:=hs ⟨k⟩
section
variable {P:Program}{C:Cx}{o:Oper}{σ:AS}
structure FnRow(P:Program)(f:FuncId)(args:List DV)(e:TypeId)(k:Nat)(xs:List (List D)):Prop where
 body:∃ fn,P.funcs[f]?=some fn∧fn.body.isNone=false∧(fn.name== "runtime.NumGoroutine")=false
 run:∀ (S:Nat→Prop) (w:World) (vs:List Value),(∀b,S b→b<w.heap.size)→RVs S w vs args→
  Calls P f vs.toArray w fun ev w'=>∃ v,ev= .returned v∧bg w w'∧(∀b,aQ v=some b→w.heap.size≤b∧b<w'.heap.size)∧RO (fun b=>((S b∨w.heap.size≤b)∧b<w'.heap.size)∧aQ v≠some b) w' (fun _=>v) [] 0 (.row 0 e k xs)
structure FnS(P:Program)(f:FuncId)(e:TypeId)(k:Nat)(xs:List (List D))(args:List DV)(Post:List (List D)→Prop):Prop where
 body:∃ fn,P.funcs[f]?=some fn∧fn.body.isNone=false∧(fn.name== "runtime.NumGoroutine")=false
 run:∀ (S:Nat→Prop) (w:World) (v:Value) (vs:List Value),(∀b,S b→b<w.heap.size)→(∀b,aQ v=some b→b<w.heap.size∧¬ S b)→RO S w (fun _=>v) [] 0 (.row 0 e k xs)→RVs S w vs args→
  Calls P f (v::vs).toArray w fun ev w'=>∃ u,ev= .returned u∧w'.os=w.os∧w'.tape=w.tape∧w'.output=w.output∧w.heap.size≤w'.heap.size∧(∀b,b<w.heap.size→aQ v≠some b→w'.heap[b]?=w.heap[b]?)∧∃ xs',Post xs'∧RO (fun b=>((S b∨w.heap.size≤b)∧b<w'.heap.size)∧aQ v≠some b) w' (fun _=>v) [] 0 (.row 0 e k xs')
theorem RO.row{S S':Nat→Prop}{w:World}{β β':Nat→Value}{O O':List (Nat×AO)}{id id' g g':Nat}{e:TypeId}{k:Nat}{xs:List (List D)}(h:RO S w β O id (.row g e k xs))(hb:β' id'=β id)(hs:∀ b,S b→S' b):RO S' w β' O' id' (.row g' e k xs):=by
 obtain⟨css,h1,h2,h3,h4⟩:=h;exact⟨css,h1,fun i h h'=>(h2 i h h').mono hs,h3,by rw[hb];exact h4⟩
theorem fT{f:FuncId}{a:Act}{w:World}{c:Operand}{xs:Array Operand}{ts:Array TypeId}(hb:∃ fn,P.funcs[f]?=some fn∧fn.body.isNone=false∧(fn.name== "runtime.NumGoroutine")=false)(ho:o.op= .call {callee:= .value c,args:=xs,argTypes:=ts })(hc:a.eval c= .func (.func f) #[] #[]):(execOp a.eval o).run P w= .ok (.enter f (xs.toList.map a.eval).toArray) w:=Loc.yZ hb ho hc
theorem Do.ry{f:FuncId}{args:List DV}{e:TypeId}{k d:Nat}{ys:List (List D)}{xs:Array Operand}{ts:Array TypeId}(hF:FnRow P f args e k ys)(ho:o.op= .call {callee:= .value (.func f),args:=xs,argTypes:=ts })(ha:dp σ xs.toList args)(hd:o.dst=some d):
  Do P C o σ (.r d 0) ⟨[],[],[(d,.row 0 e k ys)],some d⟩:=by
 intro σ' hl hdst a w K Q' ⟨β,hi⟩ hK;have hn:=hl.new d rfl;unfold Oper.wp;rw[fT hF.body ho rfl];have hmem:∀ x∈xs.toList,RA (Dat C β σ'.objs w) w β σ'.objs (a.eval x) (ev σ x):=fun x hx=>hl.ra hi (by rw[ho];simp only[Op.operands,Call.operands];simp at hx ⊢;exact .inr hx);have h1:=dm (σ:=σ) hi hmem ha;refine(hF.run _ w _ (fun b hb=>hb.2.1) h1).mono fun ev' w' ⟨v,he,hx,hblk,hv⟩=>?_;subst he;refine hK _ _ ⟨ao β d v,?_⟩;have hbd:ao β d v d=v:=by simp[ao]
 have:=Inv.put (hi.fresh d (dstOK.out hdst d hd) hn (.row 0 e k ys) hx v hblk (fun hD=>hv.row hbd fun b hb=>?_)) (some d) (fun t ht=>by cases ht;exact dstOK.out hdst d hd) (v:= .r d 0) (u:=v) ?_
 ·rw[hd];exact this
 ·rcases hb.1.1 with h | h
  ·exact(hD b h).1
  ·refine⟨.inr (.inl (Nat.le_trans hi.size h)),hb.1.2,fun id o' hid=>?_⟩;rw[ai]at hid;by_cases e:d=id
   ·rw[←e,hbd];exact hb.2
   ·rw[if_neg e]at hid;simp only[ao,if_neg (Ne.symm e)];intro e2;have:=(hi.own id o' b hid e2).2;omega
 ·intro g' e2 k2 xs2 h4;rw[ai,if_pos rfl]at h4;cases h4;exact⟨Nat.le_refl _,fun _=>hbd.symm⟩
theorem Ch.gq{E:List (Nat×AV)}{O:List (Nat×AO)}{ops:Array Oper}{fin:List Inf→Prop}{K:AS→Prop}{rest:List Oper}{d:Nat}{f:FuncId}{args:List DV}{e:TypeId}{k g id:Nat}{zs:List (List D)}{Post:List (List D)→Prop}{x:Operand}{xs:List Operand}{ts:Array TypeId}(hg:o.guard=none)(hd:o.dst=some d)(hF:FnS P f e k zs args Post)(ho:o.op= .call {callee:= .value (.func f),args:=⟨x::xs⟩,argTypes:=ts })(hx:ev ⟨E,O⟩ x= .r id g)(hO:af O id=some (.row g e k zs))(ha:dp ⟨E,O⟩ xs args)
  (h:∀ zs',Post zs'→Ch P C ops fin K none rest ⟨(d,.un)::E,(id,.row g e k zs')::O⟩):Ch P C ops fin K none (o::rest) ⟨E,O⟩:=by
 refine .eff (fun σ'=>∃ zs',Post zs'∧σ'=⟨(d,.un)::E,(id,.row g e k zs')::O⟩) hg (fun hdst a w K Q' ⟨β,hi⟩ hK=>?_) (by rintro _ ⟨zs',h1,rfl⟩;exact h zs' h1);unfold Oper.wp;rw[fT hF.body ho rfl];have hmem:∀ y∈x::xs,RA (Dat C β O w) w β O (a.eval y) (ev ⟨E,O⟩ y):=fun y _=>hi.ev y;have hx1:=hmem x (by simp);rw[hx]at hx1;have hu:=(hx1 g e k zs hO).2 rfl;have h1:=dm (σ:=⟨E,O⟩) hi (fun y hy=>hmem y (by simp[hy])) ha;have hO1:=hi.obj id _ hO;have e0:((x::xs).map a.eval).toArray=(β id::xs.map a.eval).toArray:=by rw[List.map_cons,hu]
 show Calls _ _ ((x::xs).map a.eval).toArray _ _;rw[e0];refine(hF.run (Dat C β O w) w (β id) _ (fun b hb=>hb.2.1) (fun b hb=>⟨(hi.own id _ b hO hb).2,fun h=>h.2.2 id _ hO hb⟩) (hO1.row rfl fun _ h=>h) h1).mono fun ev' w' ⟨u,he,h2,h3,h4,h5,h6,zs',hp,h7⟩=>?_;subst he;refine hK _ _ _ ⟨zs',hp,rfl⟩ ⟨ao β id (β id),?_⟩;have hb1:ao β id (β id) id=β id:=by simp[ao]
 have:=(hi.di id (.row g e k zs) (.row g e k zs') hO (β id) h2 h3 h4 h5 h6 (fun b hb=>⟨.inl hb,Nat.lt_of_lt_of_le (hi.own id _ b hO hb).2 h5⟩) ⟨Nat.le_refl _,fun _=>⟨rfl,rfl⟩⟩ fun hD _=>h7.row hb1 fun b hb=>?_).EJ o.dst (dstOK.out hdst) u
 ·rw[hd]at this ⊢;exact this
 ·rcases hb.1.1 with h | h
  ·exact(hD b h).1
  ·refine⟨.inr (.inl (Nat.le_trans hi.size h)),hb.1.2,fun i oi hid=>?_⟩;rw[ai]at hid;by_cases e:id=i
   ·rw[←e,hb1];exact hb.2
   ·rw[if_neg e]at hid;simp only[ao,if_neg (Ne.symm e)];intro e2;have:=(hi.own i oi b hid e2).2;omega
theorem Loc.EH{f:FuncId}{args res:List DV}{c:Operand}{xs:Array Operand}{ts:Array TypeId}(hF:Fn P f args res)(ho:o.op= .call {callee:= .value c,args:=xs,argTypes:=ts })(hc:ev σ c= .d (.v (.func (.func f) #[] #[])))(ha:dp σ xs.toList args):Loc P C o σ (dQ res):=by
 intro σ' hl hd a w K Q' ⟨β,hi⟩ hk;unfold Oper.wp;have h0:=hl.ra hi (x:=c) (by rw[ho];simp only[Op.operands,Call.operands];simp);rw[hc]at h0;rw[fT hF.body ho (RA.val h0)];have hmem:∀ x∈xs.toList,RA (Dat C β σ'.objs w) w β σ'.objs (a.eval x) (ev σ x):=fun x hx=>hl.ra hi (by rw[ho];simp only[Op.operands,Call.operands];simp at hx ⊢;exact .inr hx);have h1:=dm (σ:=σ) hi hmem ha;refine(hF.run _ w _ (fun b hb=>hb.2.1) h1).mono fun e w' ⟨v,he,hx,hv⟩=>?_;subst he;have hfin:=(hi.ext hx).put _ (dstOK.out hd) (gz (xs:=res) (RA.same (w':=w') hv fun b hb=>⟨⟨by
  rcases hb.1 with h | h
  ·exact h.1
  ·exact .inr (.inl (Nat.le_trans hi.size h)),hb.2,fun id o' hid hbl=>by
  rcases hb.1 with h | h
  ·exact h.2.2 id o' hid hbl
  ·have:=(hi.own id o' b hid hbl).2;omega⟩,rfl⟩))
 refine hk _ _ ⟨β,?_⟩;cases e:o.dst with
 | none=>rw[e]at hfin;exact hfin
 | some d=>rw[e]at hfin;exact hfin
theorem Loc.ou{f:FuncId}{args:List DV}{d:D}{c:Operand}{xs:Array Operand}{ts:Array TypeId}(hF:Fn P f args [.d d])(ho:o.op= .call {callee:= .value c,args:=xs,argTypes:=ts })(hc:ev σ c= .d (.v (.func (.func f) #[] #[])))(ha:dp σ xs.toList args):Loc P C o σ (.d d):=Loc.EH hF ho hc ha
def BW(rs:List ResultVar)(e:TypeId)(k:Nat)(xs:List (List D)):Exit→AS→Prop
 | .ret,σ=>∃ t id g,rs=[.tmp t]∧af σ.env t=some (.r id g)∧af σ.objs id=some (.row g e k xs)
 | .normal,σ=>∃ t id g,rs=[.tmp t]∧af σ.env t=some (.r id g)∧af σ.objs id=some (.row g e k xs)
 | _,_=>False
def Fh(nt:Nat)(e:TypeId)(k:Nat)(Post:List (List D)→Prop):Exit→AS→Prop
 | .ret,σ=>∃ xs,Post xs∧af σ.objs nt=some (.row 0 e k xs)
 | .normal,σ=>∃ xs,Post xs∧af σ.objs nt=some (.row 0 e k xs)
 | _,_=>False
theorem FnRow.of{f:FuncId}{fn:Func}{c:Code}{args:List DV}{e:TypeId}{k:Nat}{xs:List (List D)}{nt:Nat}{rs:List ResultVar}(hf:P.funcs[f]?=some fn)(hb:fn.body=some c)(hname:(fn.name== "runtime.NumGoroutine")=false)(hntm:fn.ntmps=nt)(hrs:fn.results=rs.toArray)(hnt:Nat.ble args.length nt=true)
  (h:∀ w0 S0,AC P ⟨w0,S0,[],nt⟩ c (BW rs e k xs) ⟨cR 0 args,[]⟩):FnRow P f args e k xs:=by
 subst hntm;rw[Nat.ble_eq]at hnt;refine⟨⟨fn,hf,by rw[hb];rfl,hname⟩,fun S w vs hS hvs=>?_⟩;refine calls_of_wp hf hb ?_
 let C:Cx:=⟨w,S,[],fn.ntmps⟩
 have hst:St C ⟨cR 0 args,[]⟩ {tmps:=vs.toArray++Array.replicate (fn.ntmps-vs.toArray.size) undef,defers:=[] } w:=by
  refine⟨fun _=>undef,rfl,?_,rfl,rfl,rfl,Nat.le_refl _,fun _ _ _=>rfl,fun t v ht=>?_,fun id o h=>by simp[af]at h,fun i j oi oj b h=>by simp[af]at h,fun i oi b h=>by simp[af]at h,fun i x o h=>by simp[C]at h⟩
  ·simp only[Array.size_append,List.size_toArray,Array.size_replicate];rw[hvs.1];show args.length+(fn.ntmps-args.length)=fn.ntmps;omega
  ·obtain⟨j,h1,h2,h3⟩:=eW args 0 t v ht;have hj:j<vs.length:=by rw[hvs.1];exact h2
   have ht':t=j:=by omega
   subst ht';refine⟨vs[t],?_,?_⟩
   ·rw[Array.getElem?_append_left (by simpa using hj)];simp[hj]
   ·have:=(hvs.2 t hj h2).keep (S':=Dat C (fun _=>undef) [] w) (w':=w) fun b hb=>⟨⟨.inl hb,hS b hb,fun id o h=>by simp[af]at h⟩,rfl⟩
    rw[←h3];cases e:args[t]with
    | d c=>rw[e]at this;exact this
    | g cs=>rw[e]at this;exact this
 refine Code.wp_mono ?_ (h w S _ w hst);rintro ee a' w' ⟨σ,h1,β,hi⟩;have hfin:(∃t id g,rs=[.tmp t]∧af σ.env t=some (.r id g)∧af σ.objs id=some (.row g e k xs))→a'.defers=[]∧∃ v,(results fn a'.tmps).run P w'= .ok v w'∧∃ v',Ending.returned v= .returned v'∧bg w w'∧(∀b,aQ v'=some b→w.heap.size≤b∧b<w'.heap.size)∧RO (fun b=>((S b∨w.heap.size≤b)∧b<w'.heap.size)∧aQ v'≠some b) w' (fun _=>v') [] 0 (.row 0 e k xs):=by
  rintro ⟨t,id,g,q1,q2,q3⟩;obtain⟨u,p1,p2⟩:=hi.env _ _ q2;have p3:=(p2 _ _ _ _ q3).2 rfl;have hM:∀ b,¬Cx.M C b:=fun b hm=>by obtain⟨_,h,_⟩:=hm;cases h
  refine⟨hi.defs,u,?_,u,rfl,⟨hi.os,hi.tape,hi.output,hi.size,fun k hk=>hi.fr k hk (hM k)⟩,fun b hb=>?_,(hi.obj id _ q3).row p3 fun b hb=>⟨⟨?_,hb.2.1⟩,?_⟩⟩
  ·rw[dW,hrs,q1];simp[gN,Array.getD_eq_getD_getElem?,p1]
  ·have:=hi.own id _ b q3 (by rw[←p3];exact hb);rcases this.1 with h | h
   ·exact(hM b h).elim
   ·exact⟨h,this.2⟩
  ·rcases hb.1 with h | h | h
   ·exact .inl h
   ·exact .inr h
   ·exact(hM b h).elim
  ·rw[p3];exact hb.2.2 id _ q3
 cases ee with
 | ret=>exact hfin h1
 | normal=>exact hfin h1
 | _=>exact h1.elim
theorem FnS.of{f:FuncId}{fn:Func}{c:Code}{args:List DV}{e:TypeId}{k:Nat}{xs:List (List D)}{Post:List (List D)→Prop}{nt:Nat}(hf:P.funcs[f]?=some fn)(hb:fn.body=some c)(hname:(fn.name== "runtime.NumGoroutine")=false)(hntm:fn.ntmps=nt)(hrs:fn.results= #[])(hnt:Nat.ble (args.length+1) nt=true)
  (h:∀ w0 S0 v,AC P ⟨w0,S0,[v],nt⟩ c (Fh nt e k Post) ⟨(0,.r nt 0)::cR 1 args,[(nt,.row 0 e k xs)]⟩):FnS P f e k xs args Post:=by
 subst hntm;rw[Nat.ble_eq]at hnt;refine⟨⟨fn,hf,by rw[hb];rfl,hname⟩,fun S w v vs hS hv hRO hvs=>?_⟩;refine calls_of_wp hf hb ?_
 let C:Cx:=⟨w,S,[v],fn.ntmps⟩
 have hM:∀ b,Cx.M C b↔aQ v=some b:=fun b=>⟨fun⟨x,h1,h2⟩=>by rw[List.mem_singleton.1 h1]at h2;exact h2,fun h=>⟨v,List.mem_singleton.2 rfl,h⟩⟩
 have hdat:∀ b,S b→Dat C (fun _=>v) [(fn.ntmps,.row 0 e k xs)] w b:=fun b hb=>⟨.inl hb,hS b hb,fun id o h e2=>(hv b e2).2 hb⟩
 have hst:St C ⟨(0,.r fn.ntmps 0)::cR 1 args,[(fn.ntmps,.row 0 e k xs)]⟩ {tmps:=(v::vs).toArray++Array.replicate (fn.ntmps-(v::vs).toArray.size) undef,defers:=[] } w:=by
  refine⟨fun _=>v,rfl,?_,rfl,rfl,rfl,Nat.le_refl _,fun _ _ _=>rfl,fun t u ht=>?_,fun id o h=>?_,fun i j oi oj b h h2=>?_,fun i oi b h h2=>⟨.inl ((hM b).2 h2),(hv b h2).1⟩,fun i x o h=>?_⟩
  ·simp only[Array.size_append,List.size_toArray,Array.size_replicate,List.length_cons];rw[hvs.1];show args.length+1+(fn.ntmps-(args.length+1))=fn.ntmps;omega
  ·rw[ai]at ht;by_cases e0:0=t
   ·subst e0;rw[if_pos rfl]at ht;cases ht;refine⟨v,by rw[Array.getElem?_append_left (by simp)];simp,fun g' e2 k2 xs2 hO=>?_⟩;rw[ai,if_pos rfl]at hO;cases hO;exact⟨Nat.le_refl _,fun _=>rfl⟩
   ·rw[if_neg e0]at ht;obtain⟨j,h1,h2,h3⟩:=eW args 1 t u ht;have hj:j<vs.length:=by rw[hvs.1];exact h2
    have ht':t=j+1:=by omega
    subst ht';refine⟨vs[j],?_,?_⟩
    ·rw[Array.getElem?_append_left (by simpa using hj)];simp[hj]
    ·have:=(hvs.2 j hj h2).keep (w':=w) fun b hb=>⟨hdat b hb,rfl⟩
     rw[←h3];cases e:args[j]with
     | d c=>rw[e]at this;exact this
     | g cs=>rw[e]at this;exact this
  ·rw[ai]at h;by_cases e0:fn.ntmps=id
   ·rw[if_pos e0]at h;cases h;exact hRO.row rfl hdat
   ·rw[if_neg e0]at h;simp[af]at h
  ·rw[ai]at h h2;by_cases e1:fn.ntmps=i
   ·by_cases e2:fn.ntmps=j
    ·intros;omega
    ·rw[if_neg e2]at h2;simp[af]at h2
   ·rw[if_neg e1]at h;simp[af]at h
  ·intro _ _;cases i with
   | zero=>simp[C]at h;exact h
   | succ i=>simp[C]at h
 refine Code.wp_mono ?_ (h w S v _ w hst);rintro ee a' w' ⟨σ,h1,β,hi⟩;have hfin:(∃xs',Post xs'∧af σ.objs fn.ntmps=some (.row 0 e k xs'))→a'.defers=[]∧∃ v1,(results fn a'.tmps).run P w'= .ok v1 w'∧∃ u,Ending.returned v1= .returned u∧w'.os=w.os∧w'.tape=w.tape∧w'.output=w.output∧w.heap.size≤w'.heap.size∧(∀b,b<w.heap.size→aQ v≠some b→w'.heap[b]?=w.heap[b]?)∧∃ xs',Post xs'∧RO (fun b=>((S b∨w.heap.size≤b)∧b<w'.heap.size)∧aQ v≠some b) w' (fun _=>v) [] 0 (.row 0 e k xs'):=fun⟨xs',hP,hO⟩=>by
  have hp:v=β fn.ntmps:=(hi.pin 0 v _ rfl hO rfl).symm;refine⟨hi.defs,.tuple #[],?_,_,rfl,hi.os,hi.tape,hi.output,hi.size,fun b hb hne=>hi.fr b hb (fun h=>hne ((hM b).1 h)),xs',hP,(hi.obj _ _ hO).row hp fun b hb=>⟨⟨?_,hb.2.1⟩,?_⟩⟩
  ·rw[dW,hrs];simp
  ·rcases hb.1 with h | h | h
   ·exact .inl h
   ·exact .inr h
   ·exact(hb.2.2 _ _ hO (by rw[←hp];exact(hM b).1 h)).elim
  ·rw[hp];exact hb.2.2 _ _ hO
 cases ee with
 | ret=>exact hfin h1
 | normal=>exact hfin h1
 | _=>exact h1.elim
theorem Ch.EY{E:List (Nat×AV)}{O:List (Nat×AO)}{ops:Array Oper}{fin:List Inf→Prop}{K:AS→Prop}{rest:List Oper}{d t:Nat}{T T':TypeId}{xs:List (List D)}{e:TypeId}{k by_:Nat}(hg:o.guard=none)(hd:o.dst=some d)(ho:o.op= .binOp .eql T (.tmp t) (.const (.slice none 0 0)) T')(ht:af E t=some (.d (.l xs)))[hS:Sl P T e k by_]
  (h1:xs=[]→∀ u,Ch P C ops fin K none rest ⟨(d,.d (.v (.bool true)))::(t,.d (.v u))::E,O⟩) (h2:∀ u,Ch P C ops fin K none rest ⟨(d,.d (.v (.bool false)))::(t,.d (.v u))::E,O⟩):Ch P C ops fin K none (o::rest) ⟨E,O⟩:=by
 refine .any (fun σ'=>∃ a n c,σ'=⟨(t,.d (.v (.slice a n c)))::E,O⟩∧(a=none→xs=[])) (fun a w ⟨β,hi⟩=>?_) ?_
 ·obtain⟨u,q1,q2⟩:=hi.env t _ ht;have q3:RD (Dat C β O w) w u (.l xs):=q2;obtain⟨ad,n,c,rfl,q4⟩:∃ ad n c,u= .slice ad n c∧(ad=none→xs=[]):=by
   cases q3 with
   | @l ad n c _ k us hn hc hm hk ha he=>
     refine⟨ad,n,c,rfl,fun h=>?_⟩;subst h;by_cases h0:0<n
     ·obtain⟨b,o,h,_⟩:=ha h0;cases h
     ·exact List.length_eq_zero_iff.1 (by omega)
  refine⟨_,⟨ad,n,c,rfl,q4⟩,β,hi.defs,hi.nt,hi.os,hi.tape,hi.output,hi.size,hi.fr,fun t2 v2 hv2=>?_,hi.obj,hi.dis,hi.own,hi.pin⟩;rw[ai]at hv2;by_cases e':t=t2
  ·subst e';rw[if_pos rfl]at hv2;cases hv2;exact⟨_,q1,.v rfl⟩
  ·rw[if_neg e']at hv2;exact hi.env t2 v2 hv2
 ·rintro _ ⟨ad,n,c,rfl,q4⟩;have hgo:fq ops ⟨(t,.d (.v (.slice ad n c)))::E,O⟩ o=some true:=by unfold fq;rw[hg]
  have hL:Loc P C o ⟨(t,.d (.v (.slice ad n c)))::E,O⟩ (.d (.v (.bool ad.isNone))):=by
   refine Loc.one (X:= .tmp t) (x:= .d (.v (.slice ad n c))) (by rw[ho];simp[Op.operands]) (by simp[ev,ai]) fun S w β O' a h=>?_;refine⟨.bool ad.isNone,?_,.mk rfl⟩;unfold execOp;rw[ho];have h0:=RA.val h;have hgu:(eqGuard .eql T (.tmp t) (.const (.slice none 0 0)) (.slice ad n c) (.slice none 0 0)).run P w= .ok () w:=by unfold eqGuard;simp
   have hbi:(binOp .eql T (.slice ad n c) (.slice none 0 0)).run P w= .ok (.bool ad.isNone) w:=by
    have hq:(Op.equalIn (9999+1) T (.slice ad n c) (.slice none 0 0)).run P w= .ok ad.isNone w:=by
     unfold Op.equalIn;rw[Sem.run_bind,run_underlying hS.e.under];cases ad<;>simp[Result.andThen_ok]
    simp only[binOp,Op.equal,Op.maxDepth,Sem.run_bind,hq,Result.andThen_ok];rfl
   have h1:a.eval (.const (.slice none 0 0))= .slice none 0 0:=rfl;simp[h0,h1,hgu,hbi]
  cases ad with
  | none=>exact .go hgo hd hL (h1 (q4 rfl) _)
  | some ad=>exact .go hgo hd hL (h2 _)
theorem Loc.conv{T T':TypeId}{x:Operand}{k k':IntKind}{n m:Int}(ho:o.op= .convert T T' x)(hx:ev σ x= .d (.v (.int k n)))[h:It P T k][h':It P T' k'](hw:k'.wrap n=m):Loc P C o σ (.d (.v (.int k' m))):=
 Loc.one (by rw[ho];simp[Op.operands]) hx fun S w β O a h1=>by
  refine⟨.int k' m,?_,.mk rfl⟩;unfold execOp;rw[ho];have e1:(convert T T' (.int k n)).run P w= .ok (.int k' m) w:=by
   unfold convert;rw[Sem.run_bind,run_underlying h.u,Result.andThen_ok,Sem.run_bind,run_underlying h'.u,Result.andThen_ok];simp[Conv.intToInt,hw]
  simp[RA.val h1,e1]
theorem Loc.u4{T T':TypeId}{x y:Operand}{k:IntKind}{n:Int}(ho:o.op= .binOp .shr T x y T')(hx:ev σ x= .d (.v (.int k n)))(hy:ev σ y= .d (.v (.int k 1))):Loc P C o σ (.d (.v (.int k (n / 2)))):=
 Loc.bin ho hx hy (fun w=>by
  have:n.fdiv 2=n / 2:=Int.fdiv_eq_ediv_of_nonneg _ (by omega);cases k<;>simp[binOp,Op.shift,IntKind.bits,this]) rfl
theorem wrap_u64{n:Int}(h:0≤n)(h2:n<18446744073709551616):IntKind.wrap .u64 n=n:=by
 simp[IntKind.wrap,IntKind.bits,IntKind.signed];omega
theorem Loc.dC{T:TypeId}{x:Operand}{id g idx k:Nat}{e:TypeId}{xs:List (List D)}{cs:List D}{n:Nat}(ho:o.op= .load T x)(hx:ev σ x= .e id g idx 0)(hO:af σ.objs id=some (.row g e k xs))[h:Sz P T true n](hi:xs[idx]?=some cs∧cs.length=4)(hn:4=n):ke P C o σ (.g cs) id:=
 Loc.yY ho hx hO hi.1 (by simp[hi.2,hn,List.take_of_length_le]) (by rw[hi.2,hn])
theorem n9{α:Type}{cs ds:List α}(h:cs.length=ds.length):bP cs 0 ds=ds:=by
 unfold bP;rw[List.drop_eq_nil_of_le (by omega)];simp
theorem Do.iW{T:TypeId}{x y:Operand}{id g idx k n:Nat}{e:TypeId}{xs:List (List D)}{ds:List D}(ho:o.op= .store T x y)(hx:ev σ x= .e id g idx 0)(hO:af σ.objs id=some (.row g e k xs))(hi:∃ cs,xs[idx]?=some cs∧cs.length=4)(hy:ev σ y= .g ds)(hfg:ds.map D.fg=ds∧ds.length=4)[h:Sz P T true n](hn:4=n)(hk:n=k)(hd:o.dst=none):
  Do P C o σ .un ⟨[id],[],[(id,.row g e k (xs.set idx ds))],none⟩:=by
 obtain⟨cs,h1,h2⟩:=hi;have:=Do.yT (P:=P) (C:=C) (T:=T) (n:=n) (h:=h) (off:=0) ho hx hO h1 hy rfl (by rw[←hn];exact hfg.2) (by rw[Nat.ble_eq];omega) hd;rw[hfg.1,n9 (by rw[h2,hfg.2])]at this;exact this
theorem AC.join{X:Type}{c c2:Code}{Q:Exit→AS→Prop}(F:X→AS)(I:X→Prop)(h:AC P C c (pZ (fun σ'=>∃ x,I x∧subEnv σ'.env (F x).env∧subObj σ'.objs (F x).objs) Q) σ)(h2:∀ x,I x→AC P C c2 Q (F x)):AC P C c (pZ (AC P C c2 Q) Q) σ:=
 h.mono fun e σ' hq=>by
  cases e with
  | normal=>
    obtain⟨x,h3,h4,h5⟩:=hq;exact .weak _ (fun _ _ hs=>hs.sub h4 h5) (h2 x h3)
  | _=>exact hq
end
section
variable {P:Program}{C:Cx}{o:Oper}{σ:AS}
theorem Loc.Dm{op:BinOp}{T T':TypeId}{x y:Operand}{a b r:Bool}(ho:o.op= .binOp op T x y T')(hx:ev σ x= .d (.v (.bool a)))(hy:ev σ y= .d (.v (.bool b)))
  (hr:∀ w,(binOp op T (.bool a) (.bool b)).run P w= .ok (.bool r) w):Loc P C o σ (.d (.v (.bool r))):=
 Loc.two (by rw[ho];simp[Op.operands]) hx (by rw[ho];simp[Op.operands]) hy fun S w β O c h1' h2'=>by
  refine⟨.bool r,?_,.mk rfl⟩;unfold execOp;rw[ho];have hg:(eqGuard op T x y (.bool a) (.bool b)).run P w= .ok () w:=by
   unfold eqGuard;cases op<;>simp
  simp[RA.val h1',RA.val h2',hg,hr]
theorem Loc.AP{T T':TypeId}{x y:Operand}{a b r:Bool}(ho:o.op= .binOp .eql T x y T')(hx:ev σ x= .d (.v (.bool a)))(hy:ev σ y= .d (.v (.bool b)))(hT:P.underlying T=some .bool)(hr:(a==b)=r):Loc P C o σ (.d (.v (.bool r))):=
 Loc.Dm ho hx hy fun w=>by subst hr;simp[binOp,run_equal_bool _ _ _ _ hT]
theorem Loc.AL{T T':TypeId}{x y:Operand}{a b r:Bool}(ho:o.op= .binOp .neq T x y T')(hx:ev σ x= .d (.v (.bool a)))(hy:ev σ y= .d (.v (.bool b)))(hT:P.underlying T=some .bool)(hr:(a != b)=r):Loc P C o σ (.d (.v (.bool r))):=
 Loc.Dm ho hx hy fun w=>by subst hr;simp[binOp,run_equal_bool _ _ _ _ hT];cases a<;>cases b<;>rfl
theorem RD.EL{S:Nat→Prop}{w:World}{a:Option Addr}{n c:Nat}{xs:List (List D)}(h:RD S w (.slice a n c) (.l xs))(i:Nat)(hi:i≤xs.length):RD S w (.slice a i c) (.l (xs.take i)):=by
 obtain⟨h1,h2,h3,k,css,h4,h5,h6,h7⟩:=h.cells;refine RD.kC (k:=k) (css:=css.take i) (by simp;omega) (by omega) h3 (by simp;omega) (fun j hj=>?_) (fun j hj hj'=>?_) (fun h0=>?_)
 ·rw[List.getElem_take];exact h5 _ (by simp at hj;omega)
 ·rw[List.getElem_take,List.getElem_take];exact h6 j (by simp at hj;omega) (by simp at hj';omega)
 ·obtain⟨b,o,e,hb,hr⟩:=h7 (by omega);refine⟨b,o,e,hb,fun j hj=>?_⟩;rw[List.getElem_take];exact hr j (by simp at hj;omega)
theorem Loc.EI{T:TypeId}{x y:Operand}{e k by_:Nat}{xs:List (List D)}{n:Int}{kd:IntKind}(i:Nat)(ho:o.op= .slice T x none (some y) none)(hx:ev σ x= .d (.l xs))(hy:ev σ y= .d (.v (.int kd n)))(hn:n=(i:Int))(hi:i≤xs.length)[h:Sl P T e k by_]:Loc P C o σ (.d (.l (xs.take i))):=
 Loc.two (by rw[ho];simp[Op.operands]) hx (by rw[ho];simp[Op.operands]) hy fun S w β O c h1 h2=>by
  have e1:=RA.val h2;have h1:RD S w (c.eval x) (.l xs):=h1;generalize hu:c.eval x=u at h1;have hsl:∃ a m q,u= .slice a m q:=by cases h1;exact⟨_,_,_,rfl⟩
  obtain⟨a,m,q,rfl⟩:=hsl;have hm:=h1.cells;have ht:P.underlying T=some (.slice (P.elem T)):=by
   have:=h.e.under;unfold Program.elem;rw[this]
  obtain⟨inf,z,hi1,hi2,hi3,hi4⟩:=h.e.info;have he:P.elem T=e:=by
   have h3:=h.e.under;rw[ht]at h3;simpa using h3
  refine⟨.slice a i q,?_,h1.EL i hi⟩;unfold execOp;rw[ho];have hr:=run_slice_h (P:=P) (w:=w) T a m q ht kd n (by omega) (by omega);have hsz:(sizeOf (P.elem T)).run P w= .ok k w:=by rw[he];simp[sizeOf,typeInfo,hi1,hi3]
  rw[hsz]at hr;have hfin:sliced a 0 n.toNat q k= .slice a i q:=by
   unfold sliced;have:a.map (·.add (0*k))=a:=by
    cases a with
    | none=>rfl
    | some a=>simp[Addr.add]
   rw[this,hn];simp
  simp only[Result.andThen]at hr;rw[hfin]at hr;simp[hu,e1,run_sliceAt_slice _ _ _ _ _ _ ht,hr]
theorem Loc.sO{α:Type}{f:α→List D}{ts:List α}{T:TypeId}{x y:Operand}{e k by_:Nat}{n:Int}{kd:IntKind}(i:Nat)(ho:o.op= .slice T x none (some y) none)(hx:ev σ x= .d (.l (ts.map f)))(hy:ev σ y= .d (.v (.int kd n)))(hn:n=(i:Int))(hi:i≤ts.length)[h:Sl P T e k by_]:Loc P C o σ (.d (.l ((ts.take i).map f))):=by
 rw[List.map_take];exact Loc.EI i ho hx hy hn (by simpa using hi)
theorem Do.ru{s x:Operand}{T T':TypeId}{id g d:Nat}{e:TypeId}{k bytes:Nat}{xs ys:List (List D)}(ho:o.op= .call {callee:= .builtin .append,args:= #[s,x],argTypes:= #[T,T'] })(hd:o.dst=some d)(hs:ev σ s= .r id g)(hO:af σ.objs id=some (.row g e k xs))(hx:ev σ x= .d (.l ys))[h:Sl P T e k bytes]{e' k' by':Nat}[h':Sl P T' e' k' by'](hk:∀ c∈ys,c.length=k)(hb:(xs.length+ys.length)*bytes≤140737488355328):
  Do P C o σ (.d (.l (xs++ys))) ⟨[id],[],[(id,.dead)],none⟩:=by
 intro σ' hl hdst a w K Q' hst hK;refine Do.append (P:=P) (C:=C) (T':=T') ho hd hs hO hx hk hb σ' ⟨hl.1,hl.2,hl.3,hl.4⟩ hdst a w K Q' hst fun a' w' hs'=>hK a' w' ?_;have h1:=hs'.br d (id:=id) (g:=g+1) (e:=e) (k:=k) (xs:=xs++ys) (by simp[AS.di,AS.put,hd,ai]) (by simp[AS.di,AS.put,hd,ai]);refine h1.pF (fun i=>?_) (fun t v ht=>?_)
 ·simp only[AS.di,hd,ai,List.cons_append,List.nil_append];by_cases e:id=i
  ·rw[if_pos e,if_pos e]
  ·rw[if_neg e,if_neg e,if_neg e]
 ·simp only[AS.di,AS.put,hd,ai]at ht ⊢;by_cases e:d=t
  ·rw[if_pos e]at ht ⊢;exact ht
  ·rw[if_neg e]at ht;rw[if_neg e,if_neg e];exact ht
theorem Do.Ai{α:Type}{f:α→List D}{ts:List α}{t:α}(t':α){T:TypeId}{x y:Operand}{id g idx k n:Nat}{e:TypeId}{c:D}(ho:o.op= .store T x y)(hx:ev σ x= .e id g idx 0)(hO:af σ.objs id=some (.row g e k (ts.map f)))(hi:ts[idx]?=some t)(h1:(f t).length=1)(hy:ev σ y= .d c)(hf:f t'=[c.fg])[h:Sz P T false n](hn:1=n)(hle:Nat.ble (0+n) k=true)(hd:o.dst=none):
  Do P C o σ .un ⟨[id],[],[(id,.row g e k ((ts.set idx t').map f))],none⟩:=by
 have:=Do.yT (P:=P) (C:=C) (n:=n) (h:=h) ho hx hO (cs:=f t) (ds:=[c]) (by rw[List.getElem?_map,hi];rfl) hy rfl hn hle hd;have e1:bP (f t) 0 ([c].map D.fg)=f t':=by
  rw[hf];exact n9 (by rw[h1];rfl)
 rw[e1,←List.map_set]at this;exact this
theorem Do.xq{α:Type}{f:α→List D}(z:α){T:TypeId}{lo co:Operand}{d:Nat}(l c:Nat){e:TypeId}{k bytes:Nat}{zs:List Value}{zd:List D}{kl kc:IntKind}(ho:o.op= .makeSlice T lo co)(hd:o.dst=some d)(hl:ev σ lo= .d (.v (.int kl (l:Int))))(hc:ev σ co= .d (.v (.int kc (c:Int))))[h:Sl P T e k bytes][hZ:Zr P e zs](hz:iR zs=some zd)(hf:zd.map D.fg=f z)(hlc:l≤c)(hby:c*bytes≤140737488355328):
  Do P C o σ (.r d 0) ⟨[],[],[(d,.row 0 e k ((List.replicate l z).map f))],some d⟩:=by
 rw[List.map_replicate,←hf];exact Do.make ho hd hl hc hz hlc hby
end
section
variable {P:Program}{C:Cx}{o:Oper}{σ:AS}
theorem Loc.FH{op:BinOp}{T T':TypeId}{x y:Operand}{k k':IntKind}{a b:Int}{v:Value}(ho:o.op= .binOp op T x y T')(hx:ev σ x= .d (.v (.int k a)))(hy:ev σ y= .d (.v (.int k' b)))
  (hr:∀ w,(binOp op T (.int k a) (.int k' b)).run P w= .ok v w) (h1:v.oneCell'=true):Loc P C o σ (.d (.v v)):=
 Loc.two (by rw[ho];simp[Op.operands]) hx (by rw[ho];simp[Op.operands]) hy fun S w β O c h1' h2'=>by
  refine⟨v,?_,.mk h1⟩;unfold execOp;rw[ho];have hg:(eqGuard op T x y (.int k a) (.int k' b)).run P w= .ok () w:=by
   unfold eqGuard;cases op<;>simp
  simp[RA.val h1',RA.val h2',hg,hr]
theorem Loc.shr{T T':TypeId}{x y:Operand}{k k':IntKind}{a m:Int}(c:Nat)(ho:o.op= .binOp .shr T x y T')(hx:ev σ x= .d (.v (.int k a)))(hy:ev σ y= .d (.v (.int k' c)))(hc:Nat.ble c k.bits=true)(hm:a.fdiv (2^c)=m):Loc P C o σ (.d (.v (.int k m))):=
 Loc.FH ho hx hy (fun w=>by
  rw[Nat.ble_eq]at hc;have e:min (Int.toNat (c:Int)) k.bits=c:=by omega
  have h1:(binOp .shr T (.int k a) (.int k' c))=Op.shift .shr k a k' c:=rfl;rw[h1];unfold Op.shift;rw[if_neg (by omega)];simp only[e,hm];rfl) rfl
def de(c:UInt8):List D:=[.v (.int .u8 (c.toNat:Int))]
theorem Loc.toStr{T T':TypeId}{x:Operand}{e:TypeId}{bs:List UInt8}(ho:o.op= .convert T T' x)(hx:ev σ x= .d (.l (bs.map de)))(hs:P.underlying T=some (.slice e))(he:P.underlying e=some (.int .u8))(hd:P.underlying T'=some .string):Loc P C o σ (.d (.v (.string ⟨bs.toArray⟩))):=
 Loc.one (by rw[ho];simp[Op.operands]) hx fun S w β O a h1=>by
  have h1:RD S w (a.eval x) (.l (bs.map de)):=h1;generalize hu:a.eval x=u at h1;refine⟨.string ⟨bs.toArray⟩,?_,.mk rfl⟩;unfold execOp;rw[ho];have hr:(convert T T' u).run P w= .ok (.string ⟨bs.toArray⟩) w:=by
   cases h1 with
   | @l a n c _ k us hn hc hm hk ha hel=>
     rw[List.length_map]at hn;by_cases h0:n=0
     ·have:bs=[]:=List.eq_nil_of_length_eq_zero (by omega);subst this;subst h0;cases a with
      | none=>exact run_convert_bytes_nil w T e hs he 0 c T' hd
      | some ad=>exact run_convert_bytes_back w T T' e _ c [] hs he hd fun j hj=>absurd hj (by simp)
     ·obtain⟨b,o2,rfl,hb,hcell⟩:=ha (by omega);have hk1:k=1:=by
       have:=hk 0 (by simp;omega);rw[List.getElem_map]at this;exact this.symm
      subst hk1;rw[hn];refine run_convert_bytes_back w T T' e _ c bs hs he hd fun j hj=>?_;have h2:=hcell j (by simpa using hj) 0 (by rw[List.getElem_map];exact Nat.zero_lt_one);have h3:=hel j (by simpa using hj) 0 (by rw[List.getElem_map];exact Nat.zero_lt_one);simp only[List.getElem_map,de,List.getElem_cons_zero]at h3;generalize us j 0=u at h2 h3;cases h3;rw[show (⟨b,o2,none⟩:Addr).add j=⟨b,o2+(j*1+0),none⟩by simp[Addr.add]];exact h2
  simp[hu,hr]
end
section
variable {P:Program}{C:Cx}{o:Oper}{σ:AS}
theorem Loc.bF{T:TypeId}{x:Operand}{s:ByteArray}(ho:o.op= .call {callee:= .builtin .len,args:= #[x],argTypes:= #[T] })(hx:ev σ x= .d (.v (.string s)))(hT:P.underlying T=some .string):Loc P C o σ (.d (.v (.int .i64 (s.size:Int)))):=
 Loc.one (by rw[ho];simp[Op.operands,Call.operands]) hx fun S w β O a h=>by
  refine⟨_,?_,.mk rfl⟩;have e:=RA.val h;unfold execOp;rw[ho];simp[resolve,invoke,builtin,e,run_len_string _ _ _ _ hT,goInt]
theorem Loc.fz{T T':TypeId}{x y:Operand}{s t:ByteArray}{r:Bool}(ho:o.op= .binOp .eql T x y T')(hx:ev σ x= .d (.v (.string s)))(hy:ev σ y= .d (.v (.string t)))(hr:(s.toList==t.toList)=r):Loc P C o σ (.d (.v (.bool r))):=
 Loc.two (by rw[ho];simp[Op.operands]) hx (by rw[ho];simp[Op.operands]) hy fun S w β O c h1' h2'=>by
  refine⟨.bool r,?_,.mk rfl⟩;unfold execOp;rw[ho];have hg:(eqGuard .eql T x y (.string s) (.string t)).run P w= .ok () w:=by
   unfold eqGuard;simp
  simp[RA.val h1',RA.val h2',hg,binOp,Op.stringOp,hr]
theorem Loc.lb{T T':TypeId}{x y:Operand}{s t:ByteArray}(ho:o.op= .binOp .add T x y T')(hx:ev σ x= .d (.v (.string s)))(hy:ev σ y= .d (.v (.string t)))(hl:s.size+t.size≤9223372036854775807):Loc P C o σ (.d (.v (.string (s++t)))):=
 Loc.two (by rw[ho];simp[Op.operands]) hx (by rw[ho];simp[Op.operands]) hy fun S w β O c h1' h2'=>by
  refine⟨.string (s++t),?_,.mk rfl⟩;unfold execOp;rw[ho];have hg:(eqGuard .add T x y (.string s) (.string t)).run P w= .ok () w:=by
   unfold eqGuard;simp
  have hs:(Op.stringOp .add s t).run P w= .ok (.string (s++t)) w:=by
   unfold Op.stringOp;rw[if_neg (by simp[IntKind.max,IntKind.signed,IntKind.bits];omega)];rfl
  simp[RA.val h1',RA.val h2',hg,binOp,hs]
def tx(l:List UInt8):ByteArray:=⟨l.toArray⟩
theorem aB(l:List UInt8):(tx l).size=l.length:=rfl
theorem cJ(l:List UInt8):(tx l).toList=l:=by rw[ByteArray.toList_eq];rfl
theorem kL(l m:List UInt8):tx l++tx m=tx (l++m):=by
 apply ByteArray.ext;simp[tx,ByteArray.data_append]
theorem Loc.bV{T:TypeId}{x y:Operand}{l:List UInt8}{c:UInt8}{n:Int}{kd:IntKind}(i:Nat)(ho:o.op= .index T x y)(hx:ev σ x= .d (.v (.string (tx l))))(hy:ev σ y= .d (.v (.int kd n)))(hn:n=(i:Int))(hi:l[i]?=some c)(hT:P.underlying T=some .string):Loc P C o σ (.d (.v (.int .u8 (c.toNat:Int)))):=
 Loc.two (by rw[ho];simp[Op.operands]) hx (by rw[ho];simp[Op.operands]) hy fun S w β O a h1' h2'=>by
  subst hn;refine⟨_,?_,.mk rfl⟩;unfold execOp;rw[ho];obtain⟨h1,h2⟩:=List.getElem?_eq_some_iff.1 hi;have hr:=run_index_string (P:=P) w T (tx l) kd (i:Int) hT;have hlt:(0:Int)≤(i:Int)∧(i:Int)<(tx l).size:=⟨by omega,by rw[aB];omega⟩
  rw[dif_pos hlt]at hr;have hc:(tx l)[((i:Int)).toNat]'(by rw[aB];omega)=c:=by
   have e:(tx l)[((i:Int)).toNat]'(by rw[aB];omega)=l[i]:=by simp[tx,ByteArray.getElem_eq_getElem_data]
   rw[e,h2]
  rw[hc]at hr;simp[RA.val h1',RA.val h2',hr]
theorem Loc.eU{T:TypeId}{x y:Operand}{l:List UInt8}{n:Int}{kd:IntKind}(i:Nat)(ho:o.op= .slice T x (some y) none none)(hx:ev σ x= .d (.v (.string (tx l))))(hy:ev σ y= .d (.v (.int kd n)))(hn:n=(i:Int))(hi:i≤l.length)(hT:P.underlying T=some .string):Loc P C o σ (.d (.v (.string (tx (l.drop i))))):=
 Loc.two (by rw[ho];simp[Op.operands]) hx (by rw[ho];simp[Op.operands]) hy fun S w β O a h1' h2'=>by
  subst hn;refine⟨_,?_,.mk rfl⟩;unfold execOp;rw[ho];have hr:=run_slice_string_l (P:=P) w T (tx l) hT kd (i:Int) (by omega) (by rw[aB];omega);have he:(tx l).extract ((i:Int)).toNat (tx l).size=tx (l.drop i):=by
   apply ByteArray.ext;simp[tx,ByteArray.size];exact List.take_of_length_le (by simp)
  rw[he]at hr;simp[RA.val h1',RA.val h2',run_sliceAt_string _ _ _ _ _ _ hT,hr]
end
section
variable {P:Program}{C:Cx}{o:Oper}{σ:AS}
def F8:AO→Nat→AV
 | .row ..,id=> .r id 0
 | .box ..,id=> .p id 0
 | .own x _,_=> .d (.v x)
 | .dead,_=> .un
def r7:Nat→AO→AO
 | g,.row _ e k xs=> .row g e k xs
 | _,o=>o
def cellX:AV→D→Prop
 | .d c,c'=>c'=c∨c'=c.fg
 | _,_=>False
def cellsX:List AV→List D→Prop
 | [],[]=>True
 | v::vs,d::ds=>cellX v d∧cellsX vs ds
 | _,_=>False
inductive ResX (P:Program) (σ:AS):ResultVar→DV→Prop
 | d {t:Nat} {v:AV} {c:D} (h:af σ.env t=some v) (hc:cellX v c):ResX P σ (.tmp t) (.d c)
 | g {t:Nat} {cs cs':List D} (h:af σ.env t=some (.g cs)) (hc:cs'=cs∨cs'=cs.map D.fg):ResX P σ (.tmp t) (.g cs')
 | c1 {t T id:Nat} {T':TypeId} {v:AV} {cs:List AV} {c:D} {n:Nat} (h:af σ.env t=some (.p id 0)) (hO:af σ.objs id=some (.box T' (v::cs))) (hS:Sz P T false n) (hc:cellX v c):ResX P σ (.cell t T) (.d c)
 | cn {t T id:Nat} {T':TypeId} {cs:List AV} {ds:List D} {n:Nat} (h:af σ.env t=some (.p id 0)) (hO:af σ.objs id=some (.box T' cs)) (hS:Sz P T true n) (hn:cs.length=n) (hc:cellsX cs ds):ResX P σ (.cell t T) (.g ds)
def ressX(P:Program)(σ:AS):List ResultVar→List DV→Prop
 | [],[]=>True
 | r::rs,d::ds=>ResX P σ r d∧ressX P σ rs ds
 | _,_=>False
theorem cellX.out{S:Nat→Prop}{w:World}{β:Nat→Value}{O:List (Nat×AO)}{u:Value}{v:AV}{c:D}(h:cellX v c)(hu:RA S w β O u v):RD S w u c:=by
 cases v with
 | d c0=>
   have hu:RD _ w u c0:=hu;have h:c=c0∨c=c0.fg:=by cases c<;>exact h
   rcases h with h | h
   ·subst h;exact hu
   ·subst h;exact hu.fg
 | _=>cases c<;>exact h.elim
theorem cellsX.out{S:Nat→Prop}{w:World}{β:Nat→Value}{O:List (Nat×AO)}:∀ {us:List Value} {vs:List AV} {ds:List D},cellsX vs ds→us.length=vs.length→(∀i (h:i<us.length) (h':i<vs.length),RA S w β O us[i] vs[i])→RDs S w us ds
 | [],[],[],_,_,_=> .nil
 | u::us,v::vs,d::ds,⟨h1,h2⟩,hl,hr=> .cons (h1.out (hr 0 (by simp) (by simp))) (cellsX.out h2 (by simpa using hl) fun i h h'=>hr (i+1) (by simpa using h) (by simpa using h'))
 | [],_::_,_,_,h,_=>by simp at h
 | _::_,[],_,_,h,_=>by simp at h
 | _,[],_::_,h,_,_=>h.elim
 | _,_::_,[],h,_,_=>h.elim
theorem ResX.out{β:Nat→Value}{a:Act}{w:World}(hi:Inv C σ β a w){r:ResultVar}{x:DV}(h:ResX P σ r x):
  ∃u,Sem.run P (gN a.tmps r) w= .ok u w∧RV (Dat C β σ.objs w) w u x:=by
 cases h with
 | d h hc=>
   obtain⟨u,h1,h2⟩:=hi.env _ _ h;exact⟨u,by simp[gN,Array.getD_eq_getD_getElem?,h1],hc.out h2⟩
 | g h hc=>
   obtain⟨u,h1,us,h2,h3⟩:=hi.env _ _ h;refine⟨u,by simp[gN,Array.getD_eq_getD_getElem?,h1],us,h2,?_⟩;rcases hc with hc | hc
   ·subst hc;exact h3
   ·subst hc;exact h3.fg
 | @c1 t T id T' v cs c n h hO hSz hc=>
   obtain⟨u,h1,h2⟩:=hi.env _ _ h;obtain⟨b,hb,hu⟩:=h2 _ _ hO;obtain⟨b',us,hb',hh,hlen,hone,hr⟩:=hi.obj id _ hO;rw[hb]at hb';cases hb';have hlt:0<us.length:=by rw[hlen];simp
   obtain⟨d,hd1,hd2⟩:=hSz.u;have hl:=dE (P:=P) hd1 hd2 b 0 us[0] w (by simp[World.cell?,hh,hlt]);refine⟨us[0],?_,hc.out (hr 0 hlt (by simp))⟩;simp only[Instr.loadAt,Instr.sureAddr,Sem.run_bind,Sem.run_pure,Result.andThen_ok]at hl;simp[gN,Array.getD_eq_getD_getElem?,h1,hu,asAddr,hl]
 | @cn t T id T' cs ds n h hO hSz hn hc=>
   obtain⟨u,h1,h2⟩:=hi.env _ _ h;obtain⟨b,hb,hu⟩:=h2 _ _ hO;obtain⟨b',us,hb',hh,hlen,hone,hr⟩:=hi.obj id _ hO;rw[hb]at hb';cases hb';obtain⟨d,hd1,hd2⟩:=hSz.u;have hrg:w.rangeAt b 0 us:=by
    have:=gR hh 0 us.length;simpa using this
   have hl:=run_loadVar_mid (P:=P) w b 0 T us d hrg hd1 hd2 (by rw[hSz.s,←hn,hlen]);refine⟨.agg us.toArray,?_,us,rfl,cellsX.out hc hlen hr⟩;simp[gN,Array.getD_eq_getD_getElem?,h1,hu,asAddr,hl]
theorem rP{β:Nat→Value}{a:Act}{w:World}(hi:Inv C σ β a w):∀ {rs:List ResultVar} {ds:List DV},ressX P σ rs ds→∃ us:List Value,Sem.run P (rs.mapM (gN a.tmps)) w= .ok us w∧us.length=ds.length∧∀ i (h:i<us.length) (h':i<ds.length),RV (Dat C β σ.objs w) w us[i] ds[i]
 | [],[],_=>⟨[],by simp,rfl,fun i h=>absurd h (by simp)⟩
 | r::rs,d::ds,⟨h1,h2⟩=>by
   obtain⟨u,q1,q2⟩:=h1.out hi;obtain⟨us,r1,r2,r3⟩:=rP hi h2;refine⟨u::us,?_,by simp[r2],fun i h h'=>?_⟩
   ·simp only[List.mapM_cons,Sem.run_bind,q1,r1,Result.andThen_ok];rfl
   ·cases i with
    | zero=>exact q2
    | succ i=>exact r3 i (by simpa using h) (by simpa using h')
 | [],_::_,h=>h.elim
 | _::_,[],h=>h.elim
theorem ressX.end{fn:Func}{res:List DV}{β:Nat→Value}{a:Act}{w:World}(hi:Inv C σ β a w)(h:ressX P σ fn.results.toList res):∃ v,(results fn a.tmps).run P w= .ok v w∧RA (Dat C β σ.objs w) w (fun _=>undef) [] v (dQ res):=by
 obtain⟨us,h1,h2,h3⟩:=rP hi h;have hm:Sem.run P (fn.results.mapM (gN a.tmps)) w= .ok us.toArray w:=by
  rw[Array.mapM_eq_mapM_toList];simp only[Sem.run_map,h1,Result.andThen_ok]
 match us,res,h2,h3 with
 | [u],[x],_,h3=>
   refine⟨u,?_,?_⟩
   ·rw[dW,Sem.run_bind,hm];rfl
   ·have:=h3 0 (by simp) (by simp);cases x<;>exact this
 | [],[],_,h3=>exact⟨.tuple #[],by rw[dW,Sem.run_bind,hm];rfl,[],rfl,rfl,h3⟩
 | u1::u2::us,x1::x2::xs,h2,h3=>
   refine⟨.tuple (u1::u2::us).toArray,?_,_,rfl,h2,h3⟩;rw[dW,Sem.run_bind,hm];simp
theorem nz:∀ (xs:List DV) (i:Nat) (l:List (Nat×AV)) (t:Nat),t<i+xs.length→i≤t→af (cR i xs++l) t=af (cR i xs) t
 | [],i,l,t,h1,h2=>by simp at h1;omega
 | x::r,i,l,t,h1,h2=>by
   simp only[cR,List.cons_append];rw[ai,ai];by_cases e:i=t
   ·rw[if_pos e,if_pos e]
   ·rw[if_neg e,if_neg e];exact nz r (i+1) l t (by simp at h1;omega) (by omega)
theorem nB:∀ (xs:List DV) (i:Nat) (l:List (Nat×AV)) (t:Nat),(t<i∨i+xs.length≤t)→af (cR i xs++l) t=af l t
 | [],i,l,t,_=>rfl
 | x::r,i,l,t,h=>by
   simp only[cR,List.cons_append];simp only[List.length_cons]at h;rw[ai,if_neg (by omega)];exact nB r (i+1) l t (by omega)
structure FnA(P:Program)(f:FuncId)(e:TypeId)(k:Nat)(xs:List (List D))(args:List DV)(ys:List (List D)):Prop where
 body:∃ fn,P.funcs[f]?=some fn∧fn.body.isNone=false∧(fn.name== "runtime.NumGoroutine")=false
 run:∀ (S:Nat→Prop) (w:World) (v:Value) (vs:List Value),(∀b,S b→b<w.heap.size)→(∀b,aQ v=some b→b<w.heap.size∧¬ S b)→RO S w (fun _=>v) [] 0 (.row 0 e k xs)→RVs S w vs args→
  Calls P f (v::vs).toArray w fun ev w'=>∃ u,ev= .returned u∧w'.os=w.os∧w'.tape=w.tape∧w'.output=w.output∧w.heap.size≤w'.heap.size∧(∀b,b<w.heap.size→aQ v≠some b→w'.heap[b]?=w.heap[b]?)∧(∀b,aQ u=some b→(aQ v=some b∨w.heap.size≤b)∧b<w'.heap.size)∧RO (fun b=>((S b∨w.heap.size≤b∨aQ v=some b)∧b<w'.heap.size)∧aQ u≠some b) w' (fun _=>u) [] 0 (.row 0 e k ys)
theorem Do.oU{f:FuncId}{args:List DV}{e:TypeId}{k g id:Nat}{zs ys:List (List D)}{x:Operand}{xs:List Operand}{ts:Array TypeId}(hF:FnA P f e k zs args ys)(ho:o.op= .call {callee:= .value (.func f),args:=⟨x::xs⟩,argTypes:=ts })(hx:ev σ x= .r id g)(hO:af σ.objs id=some (.row g e k zs))(ha:dp σ xs args):
  Do P C o σ (.r id (g+1)) ⟨[id],[],[(id,.row (g+1) e k ys)],none⟩:=by
 intro σ' hl hdst ac w K Q' ⟨β,hi⟩ hK;unfold Oper.wp;rw[fT hF.body ho rfl];have hO':af σ'.objs id=some (.row g e k zs):=by rw[hl.rd id (by simp)];exact hO
 have hmem:∀ y∈x::xs,RA (Dat C β σ'.objs w) w β σ'.objs (ac.eval y) (ev σ y):=fun y hy=>hl.ra hi (by rw[ho];simp only[Op.operands,Call.operands];simp at hy ⊢;exact .inr hy);have hx1:=hmem x (by simp);rw[hx]at hx1;have hu:=(hx1 g e k zs hO').2 rfl;have h1:=dm (σ:=σ) hi (fun y hy=>hmem y (by simp[hy])) ha;have hO1:=hi.obj id _ hO';have e0:((x::xs).map ac.eval).toArray=(β id::xs.map ac.eval).toArray:=by rw[List.map_cons,hu]
 show Calls _ _ ((x::xs).map ac.eval).toArray _ _;rw[e0];refine(hF.run (Dat C β σ'.objs w) w (β id) _ (fun b hb=>hb.2.1) (fun b hb=>⟨(hi.own id _ b hO' hb).2,fun h=>h.2.2 id _ hO' hb⟩) (hO1.row rfl fun _ h=>h) h1).mono fun ev' w' ⟨u,he,q2,q3,q4,q5,q6,q7,q8⟩=>?_;subst he;have hb1:ao β id u id=u:=by simp[ao]
 refine hK _ _ ⟨ao β id u,?_⟩;have:=(hi.di id (.row g e k zs) (.row (g+1) e k ys) hO' u q2 q3 q4 q5 q6 q7 ⟨by omega,fun h=>by omega⟩ fun _ _=>q8.row hb1 fun c hc=>by
  refine⟨?_,hc.1.2,fun i oi hid=>?_⟩
  ·rcases hc.1.1 with h | h | h
   ·exact h.1
   ·exact .inr (.inl (Nat.le_trans hi.size h))
   ·rcases (hi.own id _ c hO' h).1 with h2 | h2
    ·exact .inr (.inr h2)
    ·exact .inr (.inl h2)
  ·rw[ai]at hid;by_cases e:id=i
   ·rw[←e,hb1];exact hc.2
   ·rw[if_neg e]at hid;simp only[ao,if_neg (Ne.symm e)];intro e2;rcases hc.1.1 with h | h | h
    ·exact h.2.2 i oi hid e2
    ·have:=(hi.own i oi c hid e2).2;omega
    ·exact e (hi.dis id i _ oi c hO' hid h e2)).put o.dst (dstOK.out hdst) (u:=u) (v:= .r id (g+1)) fun g' e2 k2 xs2 h=>by
   rw[ai,if_pos rfl]at h;cases h;exact⟨Nat.le_refl _,fun _=>hb1.symm⟩
 cases e:o.dst with
 | none=>rw[e]at this;exact this
 | some d=>rw[e]at this;exact this
def Fs(nt:Nat)(rs:List ResultVar)(e:TypeId)(k:Nat)(ys:List (List D)):Exit→AS→Prop
 | .ret,σ=>∃ t g,rs=[.tmp t]∧af σ.env t=some (.r nt g)∧af σ.objs nt=some (.row g e k ys)
 | .normal,σ=>∃ t g,rs=[.tmp t]∧af σ.env t=some (.r nt g)∧af σ.objs nt=some (.row g e k ys)
 | _,_=>False
theorem FnA.of{f:FuncId}{fn:Func}{c:Code}{args:List DV}{e:TypeId}{k:Nat}{xs ys:List (List D)}{nt:Nat}{rs:List ResultVar}(hf:P.funcs[f]?=some fn)(hb:fn.body=some c)(hname:(fn.name== "runtime.NumGoroutine")=false)(hntm:fn.ntmps=nt)(hrs:fn.results=rs.toArray)(hnt:Nat.ble (args.length+1) nt=true)
  (h:∀ w0 S0 v,AC P ⟨w0,S0,[v],nt⟩ c (Fs nt rs e k ys) ⟨(0,.r nt 0)::cR 1 args,[(nt,.row 0 e k xs)]⟩):FnA P f e k xs args ys:=by
 subst hntm;rw[Nat.ble_eq]at hnt;refine⟨⟨fn,hf,by rw[hb];rfl,hname⟩,fun S w v vs hS hv hRO hvs=>?_⟩;refine calls_of_wp hf hb ?_
 let C:Cx:=⟨w,S,[v],fn.ntmps⟩
 have hM:∀ b,Cx.M C b↔aQ v=some b:=fun b=>⟨fun⟨x,h1,h2⟩=>by rw[List.mem_singleton.1 h1]at h2;exact h2,fun h=>⟨v,List.mem_singleton.2 rfl,h⟩⟩
 have hdat:∀ b,S b→Dat C (fun _=>v) [(fn.ntmps,.row 0 e k xs)] w b:=fun b hb=>⟨.inl hb,hS b hb,fun id o h e2=>(hv b e2).2 hb⟩
 have hst:St C ⟨(0,.r fn.ntmps 0)::cR 1 args,[(fn.ntmps,.row 0 e k xs)]⟩ {tmps:=(v::vs).toArray++Array.replicate (fn.ntmps-(v::vs).toArray.size) undef,defers:=[] } w:=by
  refine⟨fun _=>v,rfl,?_,rfl,rfl,rfl,Nat.le_refl _,fun _ _ _=>rfl,fun t u ht=>?_,fun id o h=>?_,fun i j oi oj b h h2=>?_,fun i oi b h h2=>⟨.inl ((hM b).2 h2),(hv b h2).1⟩,fun i x o h=>?_⟩
  ·simp only[Array.size_append,List.size_toArray,Array.size_replicate,List.length_cons];rw[hvs.1];show args.length+1+(fn.ntmps-(args.length+1))=fn.ntmps;omega
  ·rw[ai]at ht;by_cases e0:0=t
   ·subst e0;rw[if_pos rfl]at ht;cases ht;refine⟨v,by rw[Array.getElem?_append_left (by simp)];simp,fun g' e2 k2 xs2 hO=>?_⟩;rw[ai,if_pos rfl]at hO;cases hO;exact⟨Nat.le_refl _,fun _=>rfl⟩
   ·rw[if_neg e0]at ht;obtain⟨j,h1,h2,h3⟩:=eW args 1 t u ht;have hj:j<vs.length:=by rw[hvs.1];exact h2
    have ht':t=j+1:=by omega
    subst ht';refine⟨vs[j],?_,?_⟩
    ·rw[Array.getElem?_append_left (by simpa using hj)];simp[hj]
    ·have:=(hvs.2 j hj h2).keep (w':=w) fun b hb=>⟨hdat b hb,rfl⟩
     rw[←h3];cases e:args[j]with
     | d c=>rw[e]at this;exact this
     | g cs=>rw[e]at this;exact this
  ·rw[ai]at h;by_cases e0:fn.ntmps=id
   ·rw[if_pos e0]at h;cases h;exact hRO.row rfl hdat
   ·rw[if_neg e0]at h;simp[af]at h
  ·rw[ai]at h h2;by_cases e1:fn.ntmps=i
   ·by_cases e2:fn.ntmps=j
    ·intros;omega
    ·rw[if_neg e2]at h2;simp[af]at h2
   ·rw[if_neg e1]at h;simp[af]at h
  ·intro _ _;cases i with
   | zero=>simp[C]at h;exact h
   | succ i=>simp[C]at h
 refine Code.wp_mono ?_ (h w S v _ w hst);rintro ee a' w' ⟨σ,h1,β,hi⟩;have hfin:(∃t g,rs=[.tmp t]∧af σ.env t=some (.r fn.ntmps g)∧af σ.objs fn.ntmps=some (.row g e k ys))→a'.defers=[]∧∃ v1,(results fn a'.tmps).run P w'= .ok v1 w'∧∃ u,Ending.returned v1= .returned u∧w'.os=w.os∧w'.tape=w.tape∧w'.output=w.output∧w.heap.size≤w'.heap.size∧(∀b,b<w.heap.size→aQ v≠some b→w'.heap[b]?=w.heap[b]?)∧(∀b,aQ u=some b→(aQ v=some b∨w.heap.size≤b)∧b<w'.heap.size)∧RO (fun b=>((S b∨w.heap.size≤b∨aQ v=some b)∧b<w'.heap.size)∧aQ u≠some b) w' (fun _=>u) [] 0 (.row 0 e k ys):=by
  rintro ⟨t,g,q1,q2,q3⟩;obtain⟨u,p1,p2⟩:=hi.env _ _ q2;have p3:=(p2 _ _ _ _ q3).2 rfl;refine⟨hi.defs,u,?_,u,rfl,hi.os,hi.tape,hi.output,hi.size,fun b hb hne=>hi.fr b hb (fun h=>hne ((hM b).1 h)),fun b hb=>?_,?_⟩
  ·rw[dW,hrs,q1];simp[gN,Array.getD_eq_getD_getElem?,p1]
  ·have:=hi.own _ _ b q3 (by rw[←p3];exact hb);refine⟨?_,this.2⟩;rcases this.1 with h | h
   ·exact .inl ((hM b).1 h)
   ·exact .inr h
  ·refine(hi.obj _ _ q3).row p3 fun b hb=>⟨⟨?_,hb.2.1⟩,by rw[p3];exact hb.2.2 _ _ q3⟩
   rcases hb.1 with h | h | h
   ·exact .inl h
   ·exact .inr (.inl h)
   ·exact .inr (.inr ((hM b).1 h))
 cases ee with
 | ret=>exact hfin h1
 | normal=>exact hfin h1
 | _=>exact h1.elim
end
section
variable {P:Program}{C:Cx}{o:Oper}{σ:AS}
structure FnK(P:Program)(f:FuncId)(K:World→Prop)(args:List DV)(res:List DV):Prop where
 body:∃ fn,P.funcs[f]?=some fn∧fn.body.isNone=false∧(fn.name== "runtime.NumGoroutine")=false
 run:∀ (S:Nat→Prop) (w:World) (vs:List Value),K w→(∀b,S b→b<w.heap.size)→RVs S w vs args→
  Calls P f vs.toArray w fun e w'=>∃ v,e= .returned v∧bg w w'∧RA (fun b=>(S b∨w.heap.size≤b)∧b<w'.heap.size) w' (fun _=>undef) [] v (dQ res)
def FV(P:Program)(w:World)(u:Value)(x:List DV)(r:Value):Prop:=∃ g cap,u= .func (.func g) #[] cap∧(∃fn,P.funcs[g]?=some fn∧fn.body.isNone=false∧(fn.name== "runtime.NumGoroutine")=false)∧
 ∀(S:Nat→Prop) (w':World) (vs:List Value),bg w w'→(∀b,S b→b<w'.heap.size)→RVs S w' vs x→Calls P g (vs.toArray++cap) w' fun e w2=>e= .returned r∧bg w' w2
structure FnB(P:Program)(g:FuncId)(x:List DV)(cs:List D)(r:Value):Prop where
 body:∃ fn,P.funcs[g]?=some fn∧fn.body.isNone=false∧(fn.name== "runtime.NumGoroutine")=false
 run:∀ (S:Nat→Prop) (w:World) (vs:List Value) (b:Nat) (us:List Value),(∀b,S b→b<w.heap.size)→S b→RVs S w vs x→RDs S w us cs→w.rangeAt b 0 us→
  Calls P g (vs++[Value.pointer (some ⟨b,0,none⟩)]).toArray w fun e w'=>e= .returned r∧bg w w'
def fm(b:Nat)(T:TypeId)(cs:List D):(Nat→Prop)→World→Prop:=fun S w=>∃ us:List Value,w.heap[b]?=some (.cells us.toArray T (0,0))∧RDs S w us cs
theorem cA(b:Nat)(T:TypeId)(cs:List D):eT (.pointer (some ⟨b,0,none⟩)) (fm b T cs):=fun _ _ _ _ ⟨us,h1,h2⟩ hs hb=>
 ⟨us,(hb b rfl).trans h1,h2.keep hs⟩
def bL(b:Nat)(T:TypeId)(cs:List D):AO:= .own (.pointer (some ⟨b,0,none⟩)) (fm b T cs)
theorem Ch.pin{E:List (Nat×AV)}{O:List (Nat×AO)}{ops:Array Oper}{fin:List Inf→Prop}{Q:AS→Prop}{rest:List Oper}{T:TypeId}(t id:Nat)(cs:List D)(ht:af E t=some (.p id 0))(hO:af O id=some (.box T (cs.map .d)))
  (h:∀ b,Ch P C ops fin Q none rest ⟨(t,.d (.v (.pointer (some ⟨b,0,none⟩))))::E,(id,bL b T cs)::O⟩):Ch P C ops fin Q none rest ⟨E,O⟩:=by
 refine .any (fun σ'=>∃ b,σ'=⟨(t,.d (.v (.pointer (some ⟨b,0,none⟩))))::E,(id,bL b T cs)::O⟩) (fun a w ⟨β,hi⟩=>?_) (by rintro _ ⟨b,rfl⟩;exact h b);obtain⟨b,us,h1,h2,h3,h4,h5⟩:=hi.obj id _ hO;obtain⟨u,hu1,hu2⟩:=hi.env t _ ht;obtain⟨b',hb1,hu3⟩:=hu2 _ _ hO;rw[h1]at hb1;cases hb1;refine⟨_,⟨b,rfl⟩,β,?_⟩;have hg:∀ i o',af ((id,bL b T cs)::O) i=some o'→(i=id∧o'=bL b T cs)∨(i≠id∧af O i=some o'):=fun i o' hi=>by
  rw[ai]at hi;by_cases e:id=i
  ·rw[if_pos e]at hi;injection hi with hi;exact .inl ⟨e.symm,hi.symm⟩
  ·rw[if_neg e]at hi;exact .inr ⟨Ne.symm e,hi⟩
 have hobj:∀ i o',af ((id,bL b T cs)::O) i=some o'→∃ o2,af O i=some o2:=fun i o' hi=>by
  rcases hg i o' hi with ⟨e,_⟩ | ⟨_,h⟩
  ·subst e;exact⟨_,hO⟩
  ·exact⟨_,h⟩
 have hD:∀ c,Dat C β O w c→Dat C β ((id,bL b T cs)::O) w c∧w.heap[c]?=w.heap[c]?:=fun c hc=>⟨⟨hc.1,hc.2.1,fun i o' hi=>by
  obtain⟨o2,h⟩:=hobj i o' hi;exact hc.2.2 i o2 h⟩,rfl⟩
 have hA:∀ {u:Value} {x:AV},RA (Dat C β O w) w β O u x→RA (Dat C β ((id,bL b T cs)::O) w) w β ((id,bL b T cs)::O) u x:=fun h=>
  h.keep hD (fun i T' cs' hi=>by
   rcases hg i _ hi with ⟨_,h2⟩ | ⟨_,h2⟩
   ·cases h2
   ·exact⟨⟨T',cs',h2⟩,rfl⟩) (fun i g e k xs hi=>by
   rcases hg i _ hi with ⟨_,h2⟩ | ⟨_,h2⟩
   ·cases h2
   ·exact⟨g,e,k,xs,h2,Nat.le_refl _,fun _=>⟨rfl,rfl⟩⟩)
 refine⟨hi.defs,hi.nt,hi.os,hi.tape,hi.output,hi.size,hi.fr,fun t' v' ht'=>?_,fun i o' hid=>?_,fun i j oi oj c q1 q2 q3 q4=>?_,fun i oi c q1 q2=>?_,fun i x o' q1 q2 q3=>?_⟩
 ·simp only[ai]at ht';by_cases e:t=t'
  ·rw[if_pos e]at ht';cases ht';exact⟨u,e▸hu1,by rw[hu3];exact .v rfl⟩
  ·rw[if_neg e]at ht';obtain⟨u',p1,p2⟩:=hi.env t' v' ht';exact⟨u',p1,hA p2⟩
 ·rcases hg i o' hid with ⟨e,e2⟩ | ⟨_,hid⟩
  ·subst e e2;refine⟨h1,⟨us,h2,h3.trans (by simp),fun j hj hj'=>?_⟩,cA b T cs⟩;have:=h5 j hj (by simpa using hj');rw[List.getElem_map]at this;exact RD.mono this fun c hc=>(hD c hc).1
  ·have h1:=hi.obj i o' hid;cases o' with
   | box T2 cs2=>
     obtain⟨b2,us2,q1,q2,q3,q4,q5⟩:=h1;exact⟨b2,us2,q1,q2,q3,q4,fun j hj hj'=>hA (q5 j hj hj')⟩
   | row g e2 k xs=>
     obtain⟨css,q1,q2,q3,q4⟩:=h1;exact⟨css,q1,fun j hj hj'=>(q2 j hj hj').mono fun c hc=>(hD c hc).1,q3,q4⟩
   | dead=>trivial
   | own x R=>exact⟨h1.1,h1.2.2 _ _ _ _ h1.2.1 hD fun _ _=>rfl,h1.2.2⟩
 ·obtain⟨o2,p1⟩:=hobj i oi q1;obtain⟨o3,p2⟩:=hobj j oj q2;exact hi.dis i j o2 o3 c p1 p2 q3 q4
 ·obtain⟨o2,p1⟩:=hobj i oi q1;exact hi.own i o2 c p1 q2
 ·rcases hg _ o' q2 with ⟨e,e2⟩ | ⟨_,q2⟩
  ·exact hi.pin i x _ q1 (e▸hO) rfl
  ·exact hi.pin i x o' q1 q2 q3
theorem Loc.Dn{g:FuncId}{x:Operand}{u:Value}(ho:o.op= .makeFunc (.func g) #[] #[x])(hx:ev σ x= .d (.v u)):Loc P C o σ (.d (.v (.func (.func g) #[] #[u]))):=
 Loc.one (X:=x) (by rw[ho];simp[Op.operands]) hx fun S w β O a h=>⟨.func (.func g) #[] #[u],by unfold execOp;rw[ho];simp[Instr.makeFunc,RA.val h],.mk rfl⟩
theorem FnB.fv{g:FuncId}{x:List DV}{cs:List D}{r:Value}(h:FnB P g x cs r){S:Nat→Prop}{w:World}{b:Nat}{T:TypeId}(hb:fm b T cs S w)(hS:∀ b,S b→b<w.heap.size)(hlt:b<w.heap.size):FV P w (.func (.func g) #[] #[Value.pointer (some ⟨b,0,none⟩)]) x r:=by
 obtain⟨us,h1,h2⟩:=hb;refine⟨g,_,rfl,h.body,fun S' w' vs hx hS' hvs=>?_⟩;have e0:vs.toArray++ #[Value.pointer (some ⟨b,0,none⟩)]=(vs++[Value.pointer (some ⟨b,0,none⟩)]).toArray:=by simp
 rw[e0];have h1':w'.heap[b]?=some (.cells us.toArray T (0,0)):=(hx.block b hlt).trans h1;refine h.run (fun c=>S' c∨S c∨c=b) w' vs b us (fun c hc=>?_) (.inr (.inr rfl)) ⟨hvs.1,fun i h h'=>(hvs.2 i h h').keep fun c hc=>⟨.inl hc,rfl⟩⟩ (h2.keep fun c hc=>⟨.inr (.inl hc),hx.block c (hS c hc)⟩) ?_
 ·rcases hc with h | h | h
  ·exact hS' c h
  ·exact Nat.lt_of_lt_of_le (hS c h) hx.size
  ·subst h;exact Nat.lt_of_lt_of_le hlt hx.size
 ·have:=gR h1' 0 us.length;simpa using this
theorem Loc.AM{u r:Value}{x:List DV}{c:Operand}{xs:Array Operand}{ts:Array TypeId}(hF:FV P C.w0 u x r)(hm:C.m=[])(ho:o.op= .call {callee:= .value c,args:=xs,argTypes:=ts })(hc:ev σ c= .d (.v u))(ha:dp σ xs.toList x)(hr1:r.oneCell'=true):Loc P C o σ (.d (.v r)):=by
 intro σ' hl hd a w K Q' ⟨β,hi⟩ hk;unfold Oper.wp;have h0:=hl.ra hi (x:=c) (by rw[ho];simp only[Op.operands,Call.operands];simp);rw[hc]at h0;obtain⟨g,cap,hu,⟨fn,b1,b2,b3⟩,hrun⟩:=hF;have hx:bg C.w0 w:=⟨hi.os,hi.tape,hi.output,hi.size,fun k hk=>hi.fr k hk (by rintro ⟨_,h,_⟩;rw[hm]at h;cases h)⟩
 have hmem:∀ x∈xs.toList,RA (Dat C β σ'.objs w) w β σ'.objs (a.eval x) (ev σ x):=fun x hx=>hl.ra hi (by rw[ho];simp only[Op.operands,Call.operands];simp at hx ⊢;exact .inr hx);have h1:=dm (σ:=σ) hi hmem ha;have he:(execOp a.eval o).run P w= .ok (.enter g ((xs.toList.map a.eval).toArray++cap)) w:=by
  unfold execOp;rw[ho];have h2':fn.body≠none:=by
   intro h;rw[h]at b2;cases b2
  have h3':fn.name≠ "runtime.NumGoroutine" :=by simpa using b3
  have hcu:a.eval c= .func (.func g) #[] cap:=(RA.val h0).trans hu;obtain⟨l⟩:=xs;simp[resolve,hcu,Deferred.ofValue,invoke,callFunc,b1,h2',h3']
 rw[he];refine(hrun (Dat C β σ'.objs w) w _ hx (fun b hb=>hb.2.1) h1).mono fun e w' ⟨he,hx'⟩=>?_;subst he;refine hk _ _ ⟨β,?_⟩;have hfin:=(hi.ext hx').put _ (dstOK.out hd) (u:=r) (v:= .d (.v r)) (.v hr1);cases e:o.dst with
 | none=>rw[e]at hfin;exact hfin
 | some d=>rw[e]at hfin;exact hfin
theorem Loc.lI{f:FuncId}{Kw:World→Prop}{args res:List DV}{xs:Array Operand}{ts:Array TypeId}{R:List Nat}(hF:FnK P f Kw args res)(ho:o.op= .call {callee:= .value (.func f),args:=xs,argTypes:=ts })(ha:dp σ xs.toList args)(hK:∀ σ' β a w,(∀id,id∈R→af σ'.objs id=af σ.objs id)→Inv C σ' β a w→Kw w):Do P C o σ (dQ res) ⟨R,[],[],none⟩:=by
 intro σ' hl hd a w K Q' ⟨β,hi⟩ hk;unfold Oper.wp;rw[fT hF.body ho rfl];have hmem:∀ x∈xs.toList,RA (Dat C β σ'.objs w) w β σ'.objs (a.eval x) (ev σ x):=fun x hx=>hl.ra hi (by rw[ho];simp only[Op.operands,Call.operands];simp at hx ⊢;exact .inr hx);have h1:=dm (σ:=σ) hi hmem ha;refine(hF.run _ w _ (hK σ' β a w (fun id h=>hl.rd id h) hi) (fun b hb=>hb.2.1) h1).mono fun e w' ⟨v,he,hx,hv⟩=>?_;subst he;have hfin:=(hi.ext hx).put _ (dstOK.out hd) (gz (xs:=res) (RA.same (w':=w') hv fun b hb=>⟨⟨by
  rcases hb.1 with h | h
  ·exact h.1
  ·exact .inr (.inl (Nat.le_trans hi.size h)),hb.2,fun id o' hid hbl=>by
  rcases hb.1 with h | h
  ·exact h.2.2 id o' hid hbl
  ·have:=(hi.own id o' b hid hbl).2;omega⟩,rfl⟩))
 refine hk _ _ ⟨β,?_⟩;cases e:o.dst with
 | none=>rw[e]at hfin;exact hfin
 | some d=>rw[e]at hfin;exact hfin
theorem FnB.here{g:FuncId}{x:List DV}{cs:List D}{r:Value}(h:FnB P g x cs r){σ':AS}{β:Nat→Value}{a:Act}{w:World}(hi:Inv C σ' β a w){id b:Nat}{T:TypeId}(hO:af σ'.objs id=some (bL b T cs)):FV P w (.func (.func g) #[] #[Value.pointer (some ⟨b,0,none⟩)]) x r:=by
 obtain⟨h1,h2,_⟩:=hi.obj id _ hO;exact h.fv (S:=Dat C β σ'.objs w) h2 (fun b hb=>hb.2.1) (hi.own id _ b hO (by rw[h1];rfl)).2
theorem Fn.FG{f:FuncId}{fn:Func}{c:Code}{args res:List DV}{nt:Nat}{rs:List ResultVar}(hf:P.funcs[f]?=some fn)(hb:fn.body=some c)(hntm:fn.ntmps=nt)(hrs:fn.results=rs.toArray)(hnt:Nat.ble args.length nt=true)(w:World)(S:Nat→Prop)
  (h:AC P ⟨w,S,[],nt⟩ c (Ret P rs res) ⟨cR 0 args,[]⟩):∀ (vs:List Value),(∀b,S b→b<w.heap.size)→RVs S w vs args→
  Calls P f vs.toArray w fun e w'=>∃ v,e= .returned v∧bg w w'∧RA (fun b=>(S b∨w.heap.size≤b)∧b<w'.heap.size) w' (fun _=>undef) [] v (dQ res):=by
 subst hntm;rw[Nat.ble_eq]at hnt;have hrs':fn.results.toList=rs:=by rw[hrs]
 intro vs hS hvs;refine calls_of_wp hf hb ?_
 let C:Cx:=⟨w,S,[],fn.ntmps⟩
 have hst:St C ⟨cR 0 args,[]⟩ {tmps:=vs.toArray++Array.replicate (fn.ntmps-vs.toArray.size) undef,defers:=[] } w:=by
  refine⟨fun _=>undef,rfl,?_,rfl,rfl,rfl,Nat.le_refl _,fun _ _ _=>rfl,fun t v ht=>?_,fun id o h=>by simp[af]at h,fun i j oi oj b h=>by simp[af]at h,fun i oi b h=>by simp[af]at h,fun i x o h=>by simp[C]at h⟩
  ·simp only[Array.size_append,List.size_toArray,Array.size_replicate];rw[hvs.1];show args.length+(fn.ntmps-args.length)=fn.ntmps;omega
  ·obtain⟨j,h1,h2,h3⟩:=eW args 0 t v ht;have hj:j<vs.length:=by rw[hvs.1];exact h2
   have ht':t=j:=by omega
   subst ht';refine⟨vs[t],?_,?_⟩
   ·rw[Array.getElem?_append_left (by simpa using hj)];simp[hj]
   ·have:=(hvs.2 t hj h2).keep (S':=Dat C (fun _=>undef) [] w) (w':=w) fun b hb=>⟨⟨.inl hb,hS b hb,fun id o h=>by simp[af]at h⟩,rfl⟩
    rw[←h3];cases e:args[t]with
    | d c=>rw[e]at this;exact this
    | g cs=>rw[e]at this;exact this
 refine Code.wp_mono ?_ (h _ w hst);rintro e a' w' ⟨σ,h1,β,hi⟩;have hfin:dB P σ rs res→a'.defers=[]∧∃ v,(results fn a'.tmps).run P w'= .ok v w'∧∃ v',Ending.returned v= .returned v'∧bg w w'∧RA (fun b=>(S b∨w.heap.size≤b)∧b<w'.heap.size) w' (fun _=>undef) [] v' (dQ res):=fun hr=>by
  obtain⟨v,q1,q2⟩:=Ret.run hi (hrs'▸hr:dB P σ fn.results.toList res);refine⟨hi.defs,v,q1,v,rfl,⟨hi.os,hi.tape,hi.output,hi.size,fun k hk=>hi.fr k hk (by rintro ⟨_,h,_⟩;cases h)⟩,RA.same (w:=w') q2 fun b hb=>⟨⟨?_,hb.2⟩,rfl⟩⟩;rcases hb.1 with h | h | h
  ·exact .inl h
  ·exact .inr h
  ·obtain⟨_,h,_⟩:=h;cases h
 cases e with
 | ret=>exact hfin h1
 | normal=>exact hfin h1
 | _=>exact h1.elim
theorem FnK.of{f:FuncId}{fn:Func}{c:Code}{Kw:World→Prop}{args res:List DV}{nt:Nat}{rs:List ResultVar}(hf:P.funcs[f]?=some fn)(hb:fn.body=some c)(hname:(fn.name== "runtime.NumGoroutine")=false)(hntm:fn.ntmps=nt)(hrs:fn.results=rs.toArray)(hnt:Nat.ble args.length nt=true)
  (h:∀ w0 S0,Kw w0→AC P ⟨w0,S0,[],nt⟩ c (Ret P rs res) ⟨cR 0 args,[]⟩):FnK P f Kw args res:=by
 refine⟨⟨fn,hf,by rw[hb];rfl,hname⟩,fun S w vs hK hS hvs=>?_⟩;exact(Fn.FG hf hb hntm hrs hnt w S (h w S hK)) vs hS hvs
theorem FnB.of{g:FuncId}{fn:Func}{c:Code}{x:List DV}{cs:List D}{r:Value}{nt:Nat}{rs:List ResultVar}(hf:P.funcs[g]?=some fn)(hb:fn.body=some c)(hname:(fn.name== "runtime.NumGoroutine")=false)(hntm:fn.ntmps=nt)(hrs:fn.results=rs.toArray)(hnt:Nat.ble (x.length+1) nt=true)
  (h:∀ w0 S0,AC P ⟨w0,S0,[],nt⟩ c (Ret P rs [.d (.v r)]) ⟨cR 0 x++[(x.length,.q cs)],[]⟩):FnB P g x cs r:=by
 subst hntm;rw[Nat.ble_eq]at hnt;have hrs':fn.results.toList=rs:=by rw[hrs]
 refine⟨⟨fn,hf,by rw[hb];rfl,hname⟩,fun S w vs b us hS hb1 hvs hus hrg=>?_⟩;refine calls_of_wp hf hb ?_
 let C:Cx:=⟨w,S,[],fn.ntmps⟩
 have hD:∀ c,S c→Dat C (fun _=>undef) [] w c∧w.heap[c]?=w.heap[c]?:=fun c hc=>⟨⟨.inl hc,hS c hc,fun id o h=>by simp[af]at h⟩,rfl⟩
 have hst:St C ⟨cR 0 x++[(x.length,.q cs)],[]⟩ {tmps:=(vs++[Value.pointer (some ⟨b,0,none⟩)]).toArray++Array.replicate (fn.ntmps-(vs++[Value.pointer (some ⟨b,0,none⟩)]).toArray.size) undef,defers:=[] } w:=by
  refine⟨fun _=>undef,rfl,?_,rfl,rfl,rfl,Nat.le_refl _,fun _ _ _=>rfl,fun t v ht=>?_,fun id o h=>by simp[af]at h,fun i j oi oj b h=>by simp[af]at h,fun i oi b h=>by simp[af]at h,fun i x o h=>by simp[C]at h⟩
  ·simp only[Array.size_append,List.size_toArray,Array.size_replicate,List.length_append,List.length_cons,List.length_nil];rw[hvs.1];show x.length+1+(fn.ntmps-(x.length+1))=fn.ntmps;omega
  ·by_cases h1:t<x.length
   ·rw[nz x 0 _ t (by omega) (by omega)]at ht;obtain⟨j,e1,h2,h3⟩:=eW x 0 t v ht;obtain rfl:t=j:=by omega
    have hj:t<vs.length:=by rw[hvs.1];exact h2
    refine⟨vs[t],by rw[Array.getElem?_append_left (by simp;omega)];simp[List.getElem?_append_left hj,hj],?_⟩;have:=(hvs.2 t hj h2).keep (w':=w) hD;rw[←h3];cases e:x[t]with
    | d c=>rw[e]at this;exact this
    | g cs=>rw[e]at this;exact this
   ·rw[nB x 0 _ t (by omega),ai]at ht;by_cases e0:x.length=t
    ·rw[if_pos e0]at ht;cases ht;refine⟨.pointer (some ⟨b,0,none⟩),by rw[Array.getElem?_append_left (by simp[hvs.1];omega)];simp[←e0,←hvs.1],b,0,us,rfl,(hD b hb1).1,hus.keep hD,hrg⟩
    ·rw[if_neg e0]at ht;simp[af]at ht
 refine Code.wp_mono ?_ (h w S _ w hst);rintro e a' w' ⟨σ,h1,β,hi⟩;have hfin:dB P σ rs [.d (.v r)]→a'.defers=[]∧∃ v,(results fn a'.tmps).run P w'= .ok v w'∧Ending.returned v= .returned r∧bg w w':=fun hr=>by
  obtain⟨v,q1,q2⟩:=Ret.run hi (hrs'▸hr:dB P σ fn.results.toList [.d (.v r)]);exact⟨hi.defs,v,q1,by rw[RA.val q2],⟨hi.os,hi.tape,hi.output,hi.size,fun k hk=>hi.fr k hk (by rintro ⟨_,h,_⟩;cases h)⟩⟩
 cases e with
 | ret=>exact hfin h1
 | normal=>exact hfin h1
 | _=>exact h1.elim
end
section
variable {P:Program}{C:Cx}{o:Oper}{σ:AS}
def Cn(P:Program)(K E:TypeId)(b n:Nat)(M:DataW Unit):(Nat→Prop)→World→Prop:=fun _ w=>w.ownsMap P K (plainElem P E) b n M
theorem pa(P:Program)(K E:TypeId)(b n:Nat)(M:DataW Unit):eT (.map (some b)) (Cn P K E b n M):=fun S S' w w' h _ hb=>by
 obtain⟨es,clock,h1,h2⟩:=h;exact⟨es,clock,(hb b rfl).trans h1,h2⟩
def mr(P:Program)(K E:TypeId)(b n:Nat)(M:DataW Unit):AO:= .own (.map (some b)) (Cn P K E b n M)
theorem Ch.mkMap{E:List (Nat×AV)}{O:List (Nat×AO)}{ops:Array Oper}{fin:List Inf→Prop}{Q:AS→Prop}{rest:List Oper}{d:Nat}{T:TypeId}(Kt Et:TypeId)(hg:o.guard=none)(hd:o.dst=some d)(ho:o.op= .makeMap T none)(hn:noRef ⟨E,O⟩ d=true)
  (h:∀ b,Ch P C ops fin Q none rest ⟨(d,.d (.v (.map (some b))))::E,(d,mr P Kt Et b 0 (.map []))::O⟩):Ch P C ops fin Q none (o::rest) ⟨E,O⟩:=by
 refine .eff (fun σ'=>∃ b,σ'=⟨(d,.d (.v (.map (some b))))::E,(d,mr P Kt Et b 0 (.map []))::O⟩) hg (fun hdst a w K Q' ⟨β,hi⟩ hK=>?_) (by rintro _ ⟨b,rfl⟩;exact h b);have hr:(execOp a.eval o).run P w= .ok (.value (.map (some w.heap.size))) (w.alloc (.map #[] 0)):=by
  unfold execOp;rw[ho];simp[run_makeMap]
 unfold Oper.wp;rw[hr];refine hK _ _ _ ⟨w.heap.size,rfl⟩ ⟨ao β d (.map (some w.heap.size)),?_⟩;have hx:bg w (w.alloc (.map #[] 0)):=Below.al (Below.refl _ _) _;rw[hd];have:=(hi.fresh d (dstOK.out hdst d hd) (noRef.out hn) (mr P Kt Et w.heap.size 0 (.map [])) hx (.map (some w.heap.size)) (fun b hb=>by cases hb;exact⟨Nat.le_refl _,by simp⟩) fun _=>⟨by simp[ao],World.ownsMap_made w P Kt _,pa _ _ _ _ _ _⟩).put (some d) (fun t ht=>by cases ht;exact dstOK.out hdst d hd) (u:= .map (some w.heap.size)) (v:= .d (.v (.map (some w.heap.size)))) (.v rfl);exact this
end
section
variable {P:Program}{C:Cx}{o:Oper}{σ:AS}
theorem Fn.k{f:FuncId}{K:World→Prop}{args res:List DV}(h:Fn P f args res):FnK P f K args res:=⟨h.body,fun S w vs _=>h.run S w vs⟩
theorem gm{K:World→Prop}(hst:∀ w w',K w→bg w w'→K w')(h0:K C.w0)(hm:C.m=[]){R:List Nat}:∀ σ' β a w,(∀id,id∈R→af σ'.objs id=af σ.objs id)→Inv C σ' β a w→K w:=fun _ _ _ _ _ hi=>
 hst _ _ h0 ⟨hi.os,hi.tape,hi.output,hi.size,fun k hk=>hi.fr k hk (by rintro ⟨_,h,_⟩;rw[hm]at h;cases h)⟩
theorem Loc.ot{f:FuncId}{K:World→Prop}{args:List DV}{c:D}{xs:Array Operand}{ts:Array TypeId}(hF:FnK P f K args [.d c])(ho:o.op= .call {callee:= .value (.func f),args:=xs,argTypes:=ts })(ha:dp σ xs.toList args)(hK:∀ σ' β a w,(∀id,id∈([]:List Nat)→af σ'.objs id=af σ.objs id)→Inv C σ' β a w→K w):Loc P C o σ (.d c):=Loc.lI hF ho ha hK
theorem Loc.oz{f:FuncId}{K:World→Prop}{args:List DV}{cs:List D}{xs:Array Operand}{ts:Array TypeId}(hF:FnK P f K args [.g cs])(ho:o.op= .call {callee:= .value (.func f),args:=xs,argTypes:=ts })(ha:dp σ xs.toList args)(hK:∀ σ' β a w,(∀id,id∈([]:List Nat)→af σ'.objs id=af σ.objs id)→Inv C σ' β a w→K w):Loc P C o σ (.g cs):=Loc.lI hF ho ha hK
theorem Loc.lf{f:FuncId}{K:World→Prop}{args:List DV}{x y:DV}{l:List DV}{xs:Array Operand}{ts:Array TypeId}(hF:FnK P f K args (x::y::l))(ho:o.op= .call {callee:= .value (.func f),args:=xs,argTypes:=ts })(ha:dp σ xs.toList args)(hK:∀ σ' β a w,(∀id,id∈([]:List Nat)→af σ'.objs id=af σ.objs id)→Inv C σ' β a w→K w):Loc P C o σ (.t (x::y::l)):=Loc.lI hF ho ha hK
end
class KSt (K:World→Prop):Prop where
 st:∀ w w',K w→bg w w'→K w'
theorem c1{p q r:Prop}(h:r)(k:q)(hs:Wk r→Wk q→p:=by
  intro h k
  try (first | intro K ms hms hK | intro K hK)
  (first | apply Ch.go | apply Ch.ah);exact rfl;exact rfl
  focus
   first
    | (refine Loc.eI h.out rfl ?_;(repeat (first | exact trivial | refine⟨.inl rfl,?_⟩ | refine⟨.inr rfl,?_⟩));done)
    | (refine Loc.jh h.out rfl ?_;(repeat (first | exact trivial | refine⟨.inl rfl,?_⟩ | refine⟨.inr rfl,?_⟩));done)
    | (refine Loc.mU h.out rfl ?_;(repeat (first | exact trivial | refine⟨.inl rfl,?_⟩ | refine⟨.inr rfl,?_⟩));done)
    | (refine Loc.ot h.out rfl ?_ (gm KSt.st (by assumption) rfl);(repeat (first | exact trivial | refine⟨.inl rfl,?_⟩ | refine⟨.inr rfl,?_⟩));done)
    | (refine Loc.oz h.out rfl ?_ (gm KSt.st (by assumption) rfl);(repeat (first | exact trivial | refine⟨.inl rfl,?_⟩ | refine⟨.inr rfl,?_⟩));done)
    | (refine Loc.lf h.out rfl ?_ (gm KSt.st (by assumption) rfl);(repeat (first | exact trivial | refine⟨.inl rfl,?_⟩ | refine⟨.inr rfl,?_⟩));done)
  first
   | exact k.out
   | (revert K;exact k.out)
   | (revert K ms;exact k.out)):p:=hs ⟨h⟩ ⟨k⟩
theorem cc{p q r:Prop}(h:r)(k:q)(hs:Wk r→Wk q→p:=by
  intro h k;exact c1 h.out (wk k.out)):p:=hs ⟨h⟩ ⟨k⟩
theorem s1{p a q1 q2:Prop}(k1:a→q1)(k2:¬ a→q2)(hs:Wk (a→q1)→Wk (¬a→q2)→p:=by
  intro k1 k2
  try (first | intro K ms hms hK | intro K hK)
  first
   | refine Ch.lss rfl rfl rfl rfl rfl (fun h=>?_) (fun h=>?_)
   | refine Ch.xp rfl rfl rfl rfl rfl (fun h=>?_) (fun h=>?_)
   | refine Ch.eql rfl rfl rfl rfl rfl (fun h=>?_) (fun h=>?_)
   | refine Ch.Ad rfl rfl rfl rfl rfl (fun h=>?_) (fun h=>?_)
   | refine Ch.neq rfl rfl rfl rfl rfl (fun h=>?_) (fun h=>?_)
   | refine Ch.Dl rfl rfl rfl rfl rfl (fun h=>?_) (fun h=>?_)
   | refine Ch.gtr rfl rfl rfl rfl rfl (fun h=>?_) (fun h=>?_)
   | refine Ch.Dp rfl rfl rfl rfl rfl (fun h=>?_) (fun h=>?_)
   | refine Ch.geq rfl rfl rfl rfl rfl (fun h=>?_) (fun h=>?_)
   | refine Ch.Dr rfl rfl rfl rfl rfl (fun h=>?_) (fun h=>?_)
   | refine Ch.leq rfl rfl rfl rfl rfl (fun h=>?_) (fun h=>?_)
   | refine Ch.leqD rfl rfl rfl rfl rfl (fun h=>?_) (fun h=>?_)
  ·have k3:=k1.out h
   first
    | exact k3
    | (clear k1 k2;revert K;exact k3)
    | (clear k1 k2;revert K ms;exact k3)
  ·have k3:=k2.out h
   first
    | exact k3
    | (clear k1 k2;revert K;exact k3)
    | (clear k1 k2;revert K ms;exact k3)):p:=hs ⟨k1⟩ ⟨k2⟩
