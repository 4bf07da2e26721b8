import Derived.Maps.OwnSet
import Derived.Carry
import Derived.Test.YtbbpecfapohlaaaGreatDoorK2
namespace Go.Proofs.YtbbpecfapohlaaaGreatDoor
open Go.RowKit
def DV.av:DV→AV
 | .d c=> .d c
 | .g cs=> .g cs
def argOK:AV→DV→Prop
 | .d c,.d c'=>c'=c∨c'=c.fg
 | .g cs,.g cs'=>cs'=cs∨cs'=cs.map D.fg
 | _,_=>False
theorem argOK.out{S:Nat→Prop}{w:World}{β:Nat→Value}{O:List (Nat×AO)}{u:Value}{v:AV}{x:DV}(h:argOK v x)(hu:RA S w β O u v):RV S w u x:=by
 cases v with
 | d c=>
   cases x with
   | d c'=>
     rcases h with h | h
     ·subst h;exact hu
     ·subst h;exact RD.fg hu
   | g=>exact h.elim
 | g cs=>
   cases x with
   | g cs'=>
     obtain⟨us,h1,h2⟩:=hu;rcases h with h | h
     ·subst h;exact⟨us,h1,h2⟩
     ·subst h;exact⟨us,h1,h2.fg⟩
   | d=>exact h.elim
 | _=>exact h.elim
def argsOK(σ:AS):List Operand→List DV→Prop
 | [],[]=>True
 | x::xs,d::ds=>argOK (ev σ x) d∧argsOK σ xs ds
 | _,_=>False
def RVs(S:Nat→Prop)(w:World)(us:List Value)(ds:List DV):Prop:=us.length=ds.length∧∀ i (h:i<us.length) (h':i<ds.length),RV S w us[i] ds[i]
def resAV:List DV→AV
 | [x]=>x.av
 | xs=> .t xs
theorem resAV_sound{S:Nat→Prop}{w:World}{β:Nat→Value}{O:List (Nat×AO)}{u:Value}{xs:List DV}(h:RA S w (fun _=>undef) [] u (resAV xs)):RA S w β O u (resAV xs):=by
 match xs,h with
 | [.d c],h=>exact h
 | [.g cs],h=>exact h
 | [],h=>exact h
 | _::_::_,h=>exact h
structure Fn(P:Program)(f:FuncId)(args:List DV)(res:List DV):Prop where
 body:∃ fn,P.funcs[f]?=some fn∧fn.body.isNone=false∧(fn.name== "runtime.NumGoroutine")=false
 run:∀ (S:Nat→Prop) (w:World) (vs:List Value),(∀b,S b→b<w.heap.size)→RVs S w vs args→
  Calls P f vs.toArray w fun e w'=>∃ v,e= .returned v∧Ext w w'∧RA (fun b=>(S b∨w.heap.size≤b)∧b<w'.heap.size) w' (fun _=>undef) [] v (resAV res)
section
variable {P:Program}{C:Cx}{o:Oper}{σ:AS}
theorem argsOK_out{σ':AS}{β:Nat→Value}{a:Act}{w:World}(hi:Inv C σ' β a w):∀ {xs:List Operand} {ds:List DV},(∀x∈xs,RA (Dat C β σ'.objs w) w β σ'.objs (a.eval x) (ev σ x))→argsOK σ xs ds→RVs (Dat C β σ'.objs w) w (xs.map a.eval) ds
 | [],[],_,_=>⟨rfl,fun i h=>absurd h (by simp)⟩
 | x::xs,d::ds,he,⟨h1,h2⟩=>by
   obtain⟨h3,h4⟩:=argsOK_out hi (fun y hy=>he y (by simp[hy])) h2;refine⟨by simpa using h3,fun i h h'=>?_⟩;cases i with
   | zero=>
     exact h1.out (he x (by simp))
   | succ i=>exact h4 i (by simpa using h) (by simpa using h')
 | [],_::_,_,h=>h.elim
 | _::_,[],_,h=>h.elim
theorem Fn.exec{f:FuncId}{args res:List DV}{a:Act}{w:World}{xs:Array Operand}{ts:Array TypeId}(hF:Fn P f args res)(ho:o.op= .call {callee:= .value (.func f),args:=xs,argTypes:=ts }):(execOp a.eval o).run P w= .ok (.enter f (xs.toList.map a.eval).toArray) w:=by
 obtain⟨fn,h1,h2,h3⟩:=hF.body;unfold execOp;rw[ho];have he:a.eval (.func f)= .func (.func f) #[] #[]:=rfl;have h2':fn.body≠none:=by
  intro h;rw[h]at h2;cases h2
 have h3':fn.name≠ "runtime.NumGoroutine" :=by simpa using h3
 obtain⟨l⟩:=xs;simp[resolve,he,Deferred.ofValue,invoke,callFunc,h1,h2',h3']
theorem Loc.call{f:FuncId}{args res:List DV}{xs:Array Operand}{ts:Array TypeId}(hF:Fn P f args res)(ho:o.op= .call {callee:= .value (.func f),args:=xs,argTypes:=ts })(ha:argsOK σ xs.toList args):Loc P C o σ (resAV res):=by
 intro σ' hl hd a w K Q' ⟨β,hi⟩ hk;unfold Oper.wp;rw[hF.exec ho];have hmem:∀ x∈xs.toList,RA (Dat C β σ'.objs w) w β σ'.objs (a.eval x) (ev σ x):=fun x hx=>hl.ra hi (by rw[ho];simp only[Op.operands,Call.operands];simp at hx ⊢;exact .inr hx);have h1:=argsOK_out (σ:=σ) hi hmem ha;refine(hF.run _ w _ (fun b hb=>hb.2.1) h1).mono fun e w' ⟨v,he,hx,hv⟩=>?_;subst he;have hfin:=(hi.ext hx).put _ (dstOK.out hd) (resAV_sound (xs:=res) (RA.same (w':=w') hv fun b hb=>⟨⟨by
  rcases hb.1 with h | h
  ·exact h.1
  ·exact .inr (.inl (Nat.le_trans hi.size h)),hb.2,fun id o' hid hbl=>by
  rcases hb.1 with h | h
  ·exact h.2.2 id o' hid hbl
  ·have:=(hi.own id o' b hid hbl).2;omega⟩,rfl⟩))
 refine hk _ _ ⟨β,?_⟩;cases e:o.dst with
 | none=>rw[e]at hfin;exact hfin
 | some d=>rw[e]at hfin;exact hfin
theorem Loc.callD{f:FuncId}{args:List DV}{c:D}{xs:Array Operand}{ts:Array TypeId}(hF:Fn P f args [.d c])(ho:o.op= .call {callee:= .value (.func f),args:=xs,argTypes:=ts })(ha:argsOK σ xs.toList args):Loc P C o σ (.d c):=Loc.call hF ho ha
theorem Loc.callG{f:FuncId}{args:List DV}{cs:List D}{xs:Array Operand}{ts:Array TypeId}(hF:Fn P f args [.g cs])(ho:o.op= .call {callee:= .value (.func f),args:=xs,argTypes:=ts })(ha:argsOK σ xs.toList args):Loc P C o σ (.g cs):=Loc.call hF ho ha
theorem Loc.callT{f:FuncId}{args:List DV}{x y:DV}{l:List DV}{xs:Array Operand}{ts:Array TypeId}(hF:Fn P f args (x::y::l))(ho:o.op= .call {callee:= .value (.func f),args:=xs,argTypes:=ts })(ha:argsOK σ xs.toList args):Loc P C o σ (.t (x::y::l)):=Loc.call hF ho ha
def entry:Nat→List DV→List (Nat×AV)
 | _,[]=>[]
 | i,x::r=>(i,x.av)::entry (i+1) r
theorem entry_get:∀ (xs:List DV) (i t:Nat) (v:AV),get? (entry i xs) t=some v→∃ j,t=i+j∧∃ h:j<xs.length,xs[j].av=v
 | [],i,t,v,h=>by simp[entry,get?]at h
 | x::r,i,t,v,h=>by
   rw[entry,get?_cons]at h;by_cases e:i=t
   ·rw[if_pos e]at h;injection h with h;exact⟨0,by omega,by simp,h⟩
   ·rw[if_neg e]at h;obtain⟨j,h1,h2,h3⟩:=entry_get r (i+1) t v h;exact⟨j+1,by omega,by simpa using h2,by simpa using h3⟩
def cellD(O:List (Nat×AO)):AV→D→Prop
 | .d c,c'=>c'=c∨c'=c.fg
 | .r id g,.l xs=>∃ e k,get? O id=some (.row g e k xs)
 | _,_=>False
def cellsD(O:List (Nat×AO)):List AV→List D→Prop
 | [],[]=>True
 | v::vs,d::ds=>cellD O v d∧cellsD O vs ds
 | _,_=>False
inductive ResIs (P:Program) (σ:AS):ResultVar→DV→Prop
 | d {t:Nat} {v:AV} {c:D} (h:get? σ.env t=some v) (hc:cellD σ.objs v c):ResIs P σ (.tmp t) (.d c)
 | g {t:Nat} {cs cs':List D} (h:get? σ.env t=some (.g cs)) (hc:cs'=cs∨cs'=cs.map D.fg):ResIs P σ (.tmp t) (.g cs')
 | c1 {t T id:Nat} {T':TypeId} {v:AV} {cs:List AV} {c:D} {n:Nat} (h:get? σ.env t=some (.p id 0)) (hO:get? σ.objs id=some (.box T' (v::cs))) (hS:Sz P T false n) (hc:cellD σ.objs v c):ResIs P σ (.cell t T) (.d c)
 | cn {t T id:Nat} {T':TypeId} {cs:List AV} {ds:List D} {n:Nat} (h:get? σ.env t=some (.p id 0)) (hO:get? σ.objs id=some (.box T' cs)) (hS:Sz P T true n) (hn:cs.length=n) (hc:cellsD σ.objs cs ds):ResIs P σ (.cell t T) (.g ds)
def ressOK(P:Program)(σ:AS):List ResultVar→List DV→Prop
 | [],[]=>True
 | r::rs,d::ds=>ResIs P σ r d∧ressOK P σ rs ds
 | _,_=>False
def Ours(C:Cx)(w:World):Nat→Prop:=fun b=>(C.S0 b∨C.w0.heap.size≤b∨C.M b)∧b<w.heap.size
theorem row_RD{S S':Nat→Prop}{w:World}{β:Nat→Value}{O:List (Nat×AO)}{id g:Nat}{e:TypeId}{k:Nat}{xs:List (List D)}(h:RO S w β O id (.row g e k xs))(hs:∀ b,S b→S' b)(hb:∀ b,blk (β id)=some b→S' b):RD S' w (β id) (.l xs):=by
 obtain⟨css,h1,h2,h3,hown⟩:=h;obtain⟨_,ad,c,hv,hc,hm⟩:=row_shape hown;rw[hv];refine RD.ofCells rfl hc hm h1 (fun i h=>h3 _ (List.getElem_mem h)) (fun i h h'=>(h2 i h h').mono hs) fun hp=>?_;rcases hown.2 with ⟨h0,h5⟩ | ⟨gb,cap,cur,hv',_,_,_⟩
 ·omega
 ·rw[hv]at hv';injection hv' with e1 e2 e3;subst e1;refine⟨gb,0,rfl,hb gb (by rw[hv];rfl),fun i hi=>?_⟩;have:=row_range h1 h2 h3 hown hv i hi;rwa[Nat.zero_add]
theorem cellD.out{β:Nat→Value}{a:Act}{w:World}(hi:Inv C σ β a w){u:Value}{v:AV}{c:D}(h:cellD σ.objs v c)(hu:RA (Dat C β σ.objs w) w β σ.objs u v):RD (Ours C w) w u c:=by
 have hS:∀ b,Dat C β σ.objs w b→Ours C w b:=fun b hb=>⟨hb.1,hb.2.1⟩
 cases v with
 | d c0=>
   have hu:RD _ w u c0:=hu;have h:c=c0∨c=c0.fg:=by cases c<;>exact h
   rcases h with h | h
   ·subst h;exact hu.mono hS
   ·subst h;exact hu.fg.mono hS
 | r id g=>
   cases c with
   | l xs=>
     obtain⟨e,k,hO⟩:=h;rw[(hu g e k xs hO).2 rfl];exact row_RD (hi.obj id _ hO) hS fun b hb=>by
      have:=hi.own id _ b hO hb;exact⟨by rcases this.1 with h | h;exact .inr (.inr h);exact .inr (.inl h),this.2⟩
   | _=>exact h.elim
 | _=>cases c<;>exact h.elim
theorem cellsD.out{β:Nat→Value}{a:Act}{w:World}(hi:Inv C σ β a w):∀ {us:List Value} {vs:List AV} {ds:List D},cellsD σ.objs vs ds→us.length=vs.length→(∀i (h:i<us.length) (h':i<vs.length),RA (Dat C β σ.objs w) w β σ.objs us[i] vs[i])→RDs (Ours C w) w us ds
 | [],[],[],_,_,_=> .nil
 | u::us,v::vs,d::ds,⟨h1,h2⟩,hl,hr=> .cons (h1.out hi (hr 0 (by simp) (by simp))) (cellsD.out hi h2 (by simpa using hl) fun i h h'=>hr (i+1) (by simpa using h) (by simpa using h'))
 | [],_::_,_,_,h,_=>by simp at h
 | _::_,[],_,_,h,_=>by simp at h
 | _,[],_::_,h,_,_=>h.elim
 | _,_::_,[],h,_,_=>h.elim
def resM(tmps:Array Value)(r:ResultVar):Sem Value:=match r with
 | .tmp t=>pure (tmps.getD t undef)
 | .cell ad t=>do loadVar t (←asAddr (tmps.getD ad undef))
theorem results_eq(fn:Func)(tmps:Array Value):results fn tmps=(do
  let vs ←fn.results.mapM (resM tmps)
  pure (if h:vs.size=1 then vs[0]else .tuple vs)):=rfl
theorem ResIs.out{β:Nat→Value}{a:Act}{w:World}(hi:Inv C σ β a w){r:ResultVar}{x:DV}(h:ResIs P σ r x):
  ∃u,Sem.run P (resM a.tmps r) w= .ok u w∧RV (Ours C w) w u x:=by
 have hS:∀ b,Dat C β σ.objs w b→Ours C w b:=fun b hb=>⟨hb.1,hb.2.1⟩
 cases h with
 | d h hc=>
   obtain⟨u,h1,h2⟩:=hi.env _ _ h;exact⟨u,by simp[resM,Array.getD_eq_getD_getElem?,h1],hc.out hi h2⟩
 | g h hc=>
   obtain⟨u,h1,us,h2,h3⟩:=hi.env _ _ h;refine⟨u,by simp[resM,Array.getD_eq_getD_getElem?,h1],us,h2,?_⟩;rcases hc with hc | hc
   ·subst hc;exact h3.mono hS
   ·subst hc;exact h3.fg.mono hS
 | @c1 t T id T' v cs c n h hO hSz hc=>
   obtain⟨u,h1,h2⟩:=hi.env _ _ h;obtain⟨b,hb,hu⟩:=h2 _ _ hO;obtain⟨b',us,hb',hh,hlen,hone,hr⟩:=hi.obj id _ hO;rw[hb]at hb';cases hb';have hlt:0<us.length:=by rw[hlen];simp
   obtain⟨d,hd1,hd2⟩:=hSz.u;have hl:=run_loadAt_one (P:=P) hd1 hd2 b 0 us[0] w (by simp[World.cell?,hh,hlt]);refine⟨us[0],?_,hc.out hi (hr 0 hlt (by simp))⟩;simp only[Instr.loadAt,Instr.sureAddr,Sem.run_bind,Sem.run_pure,Result.andThen_ok]at hl;simp[resM,Array.getD_eq_getD_getElem?,h1,hu,asAddr,hl]
 | @cn t T id T' cs ds n h hO hSz hn hc=>
   obtain⟨u,h1,h2⟩:=hi.env _ _ h;obtain⟨b,hb,hu⟩:=h2 _ _ hO;obtain⟨b',us,hb',hh,hlen,hone,hr⟩:=hi.obj id _ hO;rw[hb]at hb';cases hb';obtain⟨d,hd1,hd2⟩:=hSz.u;have hrg:w.rangeAt b 0 us:=by
    have:=box_range hh 0 us.length;simpa using this
   have hl:=run_loadVar_mid (P:=P) w b 0 T us d hrg hd1 hd2 (by rw[hSz.s,←hn,hlen]);refine⟨.agg us.toArray,?_,us,rfl,cellsD.out hi hc hlen hr⟩;simp[resM,Array.getD_eq_getD_getElem?,h1,hu,asAddr,hl]
theorem ress_run{β:Nat→Value}{a:Act}{w:World}(hi:Inv C σ β a w):∀ {rs:List ResultVar} {ds:List DV},ressOK P σ rs ds→∃ us:List Value,Sem.run P (rs.mapM (resM a.tmps)) w= .ok us w∧us.length=ds.length∧∀ i (h:i<us.length) (h':i<ds.length),RV (Ours C w) w us[i] ds[i]
 | [],[],_=>⟨[],by simp,rfl,fun i h=>absurd h (by simp)⟩
 | r::rs,d::ds,⟨h1,h2⟩=>by
   obtain⟨u,q1,q2⟩:=h1.out hi;obtain⟨us,r1,r2,r3⟩:=ress_run hi h2;refine⟨u::us,?_,by simp[r2],fun i h h'=>?_⟩
   ·simp only[List.mapM_cons,Sem.run_bind,q1,r1,Result.andThen_ok];rfl
   ·cases i with
    | zero=>exact q2
    | succ i=>exact r3 i (by simpa using h) (by simpa using h')
 | [],_::_,h=>h.elim
 | _::_,[],h=>h.elim
def Ret(P:Program)(rs:List ResultVar)(res:List DV):Exit→AS→Prop
 | .ret,σ=>ressOK P σ rs res
 | .normal,σ=>ressOK P σ rs res
 | _,_=>False
theorem Ret.run{fn:Func}{res:List DV}{β:Nat→Value}{a:Act}{w:World}(hi:Inv C σ β a w)(h:ressOK P σ fn.results.toList res):∃ v,(results fn a.tmps).run P w= .ok v w∧RA (Ours C w) w (fun _=>undef) [] v (resAV res):=by
 obtain⟨us,h1,h2,h3⟩:=ress_run hi h;have hm:Sem.run P (fn.results.mapM (resM a.tmps)) w= .ok us.toArray w:=by
  rw[Array.mapM_eq_mapM_toList];simp only[Sem.run_map,h1,Result.andThen_ok]
 match us,res,h2,h3 with
 | [u],[x],_,h3=>
   refine⟨u,?_,?_⟩
   ·rw[results_eq,Sem.run_bind,hm];rfl
   ·have:=h3 0 (by simp) (by simp);cases x<;>exact this
 | [],[],_,h3=>exact⟨.tuple #[],by rw[results_eq,Sem.run_bind,hm];rfl,[],rfl,rfl,h3⟩
 | u1::u2::us,x1::x2::xs,h2,h3=>
   refine⟨.tuple (u1::u2::us).toArray,?_,_,rfl,h2,h3⟩;rw[results_eq,Sem.run_bind,hm];simp
theorem Fn.of{f:FuncId}{fn:Func}{c:Code}{args res:List DV}{nt:Nat}{rs:List ResultVar}(hf:P.funcs[f]?=some fn)(hb:fn.body=some c)(hname:(fn.name== "runtime.NumGoroutine")=false)(hntm:fn.ntmps=nt)(hrs:fn.results=rs.toArray)(hnt:Nat.ble args.length nt=true)
  (h:∀ w0 S0,AC P ⟨w0,S0,[],nt⟩ c (Ret P rs res) ⟨entry 0 args,[]⟩):Fn P f args res:=by
 subst hntm;rw[Nat.ble_eq]at hnt;have hrs':fn.results.toList=rs:=by rw[hrs]
 refine⟨⟨fn,hf,by rw[hb];rfl,hname⟩,fun S w vs hS hvs=>?_⟩;refine calls_of_wp hf hb ?_
 let C:Cx:=⟨w,S,[],fn.ntmps⟩
 have hst:St C ⟨entry 0 args,[]⟩ {tmps:=vs.toArray++Array.replicate (fn.ntmps-vs.toArray.size) undef,defers:=[] } w:=by
  refine⟨fun _=>undef,rfl,?_,rfl,rfl,rfl,Nat.le_refl _,fun _ _ _=>rfl,fun t v ht=>?_,fun id o h=>by simp[get?]at h,fun i j oi oj b h=>by simp[get?]at h,fun i oi b h=>by simp[get?]at h,fun i x o h=>by simp[C]at h⟩
  ·simp only[Array.size_append,List.size_toArray,Array.size_replicate];rw[hvs.1];show args.length+(fn.ntmps-args.length)=fn.ntmps;omega
  ·obtain⟨j,h1,h2,h3⟩:=entry_get args 0 t v ht;have hj:j<vs.length:=by rw[hvs.1];exact h2
   have ht':t=j:=by omega
   subst ht';refine⟨vs[t],?_,?_⟩
   ·rw[Array.getElem?_append_left (by simpa using hj)];simp[hj]
   ·have:=(hvs.2 t hj h2).keep (S':=Dat C (fun _=>undef) [] w) (w':=w) fun b hb=>⟨⟨.inl hb,hS b hb,fun id o h=>by simp[get?]at h⟩,rfl⟩
    rw[←h3];cases e:args[t]with
    | d c=>rw[e]at this;exact this
    | g cs=>rw[e]at this;exact this
 refine Code.wp_mono ?_ (h w S _ w hst);rintro e a' w' ⟨σ,h1,β,hi⟩;have hfin:ressOK P σ rs res→a'.defers=[]∧∃ v,(results fn a'.tmps).run P w'= .ok v w'∧∃ v',Ending.returned v= .returned v'∧Ext w w'∧RA (fun b=>(S b∨w.heap.size≤b)∧b<w'.heap.size) w' (fun _=>undef) [] v' (resAV res):=fun hr=>by
  obtain⟨v,q1,q2⟩:=Ret.run hi (hrs'▸hr:ressOK P σ fn.results.toList res);refine⟨hi.defs,v,q1,v,rfl,⟨hi.os,hi.tape,hi.output,hi.size,fun k hk=>hi.fr k hk (by rintro ⟨_,h,_⟩;cases h)⟩,RA.same (w:=w') q2 fun b hb=>⟨⟨?_,hb.2⟩,rfl⟩⟩;rcases hb.1 with h | h | h
  ·exact .inl h
  ·exact .inr h
  ·obtain⟨_,h,_⟩:=h;cases h
 cases e with
 | ret=>exact hfin h1
 | normal=>exact hfin h1
 | _=>exact h1.elim
theorem Inv.nilRow{β:Nat→Value}{a:Act}{w:World}(h:Inv C σ β a w)(id:Nat)(hid:id<C.nt)(hn:NoRef σ id)(e k:Nat):Inv C ⟨σ.env,(id,.row 0 e k [])::σ.objs⟩ (bset β id (.slice none 0 0)) a w:=
 h.fresh id hid hn (.row 0 e k []) (Below.refl _ _) _ (fun b hb=>by cases hb) fun _=>⟨[],rfl,fun i h=>absurd h (by simp),by simp,by simpa[bset] using World.ownsRow_nil w 0 e k⟩
def idOK(C:Cx)(σ:AS)(id:Nat):Bool:=Nat.blt id C.nt&&noRef σ id
theorem idOK.out{id:Nat}(h:idOK C σ id=true):id<C.nt∧NoRef σ id:=by
 unfold idOK at h;rw[Bool.and_eq_true]at h;exact⟨by have:=h.1;rw[Nat.blt_eq]at this;exact this,noRef.out h.2⟩
theorem AC.rowVar{c:Code}{Q:Exit→AS→Prop}(t id e k:Nat)(ht:get? σ.env t=some (.d .n))(hn:idOK C σ id=true)(h:AC P C c Q ⟨(t,.r id 0)::σ.env,(id,.row 0 e k [])::σ.objs⟩):AC P C c Q σ:=fun a w hs=>by
 obtain⟨β,hi⟩:=hs;refine h a w ⟨bset β id (.slice none 0 0),?_⟩;have h1:=hi.nilRow id (idOK.out hn).1 (idOK.out hn).2 e k;refine⟨h1.defs,h1.nt,h1.os,h1.tape,h1.output,h1.size,h1.fr,fun t' v hv=>?_,h1.obj,h1.dis,h1.own,h1.pin⟩;rw[get?_cons]at hv;by_cases e':t=t'
 ·subst e';rw[if_pos rfl]at hv;injection hv with hv;subst hv;obtain⟨u,q1,q2⟩:=hi.env t _ ht;refine⟨u,q1,fun g' e2 k2 xs hO=>?_⟩;rw[get?_cons,if_pos rfl]at hO;cases hO;refine⟨Nat.le_refl _,fun _=>?_⟩;cases q2;simp[bset]
 ·rw[if_neg e']at hv;exact h1.env t' v hv
theorem AC.rowBox{c:Code}{Q:Exit→AS→Prop}(id0 off id e k:Nat){T:TypeId}{cs:List AV}(hO:get? σ.objs id0=some (.box T cs))(hc:cs[off]?=some (.d .n))(hn:idOK C σ id=true)(h:AC P C c Q ⟨σ.env,(id0,.box T (cs.set off (.r id 0)))::(id,.row 0 e k [])::σ.objs⟩):AC P C c Q σ:=fun a w hs=>by
 obtain⟨β,hi⟩:=hs;have hn':=(idOK.out hn).2;have h1:=hi.nilRow id (idOK.out hn).1 hn' e k;have hne:id0≠id:=(hn'.obj id0 _ hO).1;have hO1:get? ((id,AO.row 0 e k [])::σ.objs) id0=some (.box T cs):=by rw[get?_cons,if_neg (Ne.symm hne)];exact hO
 refine h a w ⟨_,h1.upd (w':=w) id0 (.box T cs) (.box T (cs.set off (.r id 0))) hO1 (bset β id (.slice none 0 0) id0) rfl rfl rfl (Nat.le_refl _) (fun _ _ _=>rfl) (fun b hb=>⟨.inl hb,(h1.own id0 _ b hO1 hb).2⟩) rfl fun hD hA=>?_⟩;obtain⟨b,us,q1,q2,q3,q4,q5⟩:=h1.obj id0 _ hO1;refine⟨b,us,by simpa[bset] using q1,q2,by simpa using q3,q4,fun i hi1 hi2=>?_⟩;have hi3:i<cs.length:=by simpa using hi2
 by_cases e':off=i
 ·subst e';have hcs:cs[off]= .d .n:=by
   rw[List.getElem?_eq_getElem hi3]at hc;injection hc
  have:=q5 off hi1 hi3;rw[hcs]at this;simp only[List.getElem_set_self];intro g' e2 k2 xs hO2;rw[get?_cons,if_neg hne,get?_cons,if_pos rfl]at hO2;cases hO2;refine⟨Nat.le_refl _,fun _=>?_⟩;generalize us[off]=u at this;cases this;simp[bset,Ne.symm hne]
 ·rw[List.getElem_set_ne e'];exact hA (q5 i hi1 hi3)
theorem Inv.kill{β:Nat→Value}{a:Act}{w:World}(h:Inv C σ β a w)(id:Nat):Inv C ⟨σ.env,(id,.dead)::σ.objs⟩ (bset β id undef) a w∧(∀b,Dat C β σ.objs w b→Dat C (bset β id undef) ((id,.dead)::σ.objs) w b)∧(∀o b,get? σ.objs id=some o→blk (β id)=some b→Dat C (bset β id undef) ((id,.dead)::σ.objs) w b):=by
 have hsub:∀ i o,get? ((id,AO.dead)::σ.objs) i=some o→(i=id∧o= .dead)∨(i≠id∧get? σ.objs i=some o):=fun i o hi=>by
  rw[get?_cons]at hi;by_cases e:id=i
  ·rw[if_pos e]at hi;injection hi with hi;exact .inl ⟨e.symm,hi.symm⟩
  ·rw[if_neg e]at hi;exact .inr ⟨Ne.symm e,hi⟩
 have hbe:∀ i,i≠id→bset β id undef i=β i:=fun i hi=>by simp[bset,hi]
 have hbi:bset β id undef id=undef:=by simp[bset]
 have hD:∀ b,Dat C β σ.objs w b→Dat C (bset β id undef) ((id,.dead)::σ.objs) w b∧w.heap[b]?=w.heap[b]?:=fun b hb=>⟨⟨hb.1,hb.2.1,fun i o hi=>by
  rcases hsub i o hi with ⟨e,_⟩ | ⟨e,h2⟩
  ·subst e;rw[hbi];simp[blk,undef]
  ·rw[hbe i e];exact hb.2.2 i o h2⟩,rfl⟩
 have hA:∀ {u:Value} {x:AV},RA (Dat C β σ.objs w) w β σ.objs u x→RA (Dat C (bset β id undef) ((id,.dead)::σ.objs) w) w (bset β id undef) ((id,.dead)::σ.objs) u x:=fun h=>
  h.keep hD (fun i T cs hi=>by
   rcases hsub i _ hi with ⟨_,h2⟩ | ⟨e,h2⟩
   ·cases h2
   ·exact⟨⟨T,cs,h2⟩,hbe i e⟩) (fun i g e k xs hi=>by
   rcases hsub i _ hi with ⟨_,h2⟩ | ⟨e',h2⟩
   ·cases h2
   ·exact⟨g,e,k,xs,h2,Nat.le_refl _,fun _=>⟨rfl,hbe i e'⟩⟩)
 refine⟨⟨h.defs,h.nt,h.os,h.tape,h.output,h.size,h.fr,fun t v ht=>?_,fun i o hi=>?_,fun i j oi oj b h1 h2 h3 h4=>?_,fun i oi b h1 h3=>?_,fun i x o h1 h2 h3=>?_⟩,fun b hb=>(hD b hb).1,fun o b ho hb=>?_⟩
 ·obtain⟨u,h1,h2⟩:=h.env t v ht;exact⟨u,h1,hA h2⟩
 ·rcases hsub i o hi with ⟨_,h2⟩ | ⟨e,h2⟩
  ·subst h2;trivial
  ·have:=h.obj i o h2;cases o with
   | box T cs=>
     obtain⟨b,us,h1,h2,h3,h4,h5⟩:=this;exact⟨b,us,by rw[hbe i e];exact h1,h2,h3,h4,fun i h h'=>hA (h5 i h h')⟩
   | row g e2 k xs=>
     obtain⟨css,h1,h2,h3,h4⟩:=this;exact⟨css,h1,fun i h h'=>(h2 i h h').mono fun b hb=>(hD b hb).1,h3,by rw[hbe i e];exact h4⟩
   | dead=>trivial
   | own x R=>exact⟨by rw[hbe i e];exact this.1,this.2.2 _ _ _ _ this.2.1 hD fun b _=>rfl,this.2.2⟩
 ·rcases hsub i oi h1 with ⟨e,_⟩ | ⟨e,h1⟩
  ·subst e;rw[hbi]at h3;simp[blk,undef]at h3
  ·rcases hsub j oj h2 with ⟨e2,_⟩ | ⟨e2,h2⟩
   ·subst e2;rw[hbi]at h4;simp[blk,undef]at h4
   ·rw[hbe i e]at h3;rw[hbe j e2]at h4;exact h.dis i j oi oj b h1 h2 h3 h4
 ·rcases hsub i oi h1 with ⟨e,_⟩ | ⟨e,h1⟩
  ·subst e;rw[hbi]at h3;simp[blk,undef]at h3
  ·rw[hbe i e]at h3;exact h.own i oi b h1 h3
 ·rcases hsub _ o h2 with ⟨_,e⟩ | ⟨e,h2⟩
  ·subst e;cases h3
  ·rw[hbe _ e];exact h.pin i x o h1 h2 h3
 ·have h1:=h.own id o b ho hb;refine⟨by rcases h1.1 with h | h;exact .inr (.inr h);exact .inr (.inl h),h1.2,fun i oi hi hbi2=>?_⟩;rcases hsub i oi hi with ⟨e,_⟩ | ⟨e,h2⟩
  ·subst e;rw[hbi]at hbi2;simp[blk,undef]at hbi2
  ·rw[hbe i e]at hbi2;exact e (h.dis i id oi o b h2 ho hbi2 hb)
theorem St.frzVar{a:Act}{w:World}(t:Nat){id g:Nat}{e:TypeId}{k:Nat}{xs:List (List D)}(ht:get? σ.env t=some (.r id g))(hO:get? σ.objs id=some (.row g e k xs))(hs:St C σ a w):St C ⟨(t,.d (.l xs))::σ.env,(id,AO.dead)::σ.objs⟩ a w:=by
 obtain⟨β,hi⟩:=hs;obtain⟨h1,h2,h3⟩:=hi.kill id;refine⟨bset β id undef,h1.defs,h1.nt,h1.os,h1.tape,h1.output,h1.size,h1.fr,fun t' v hv=>?_,h1.obj,h1.dis,h1.own,h1.pin⟩;rw[get?_cons]at hv;by_cases e':t=t'
 ·subst e';rw[if_pos rfl]at hv;injection hv with hv;subst hv;obtain⟨u,q1,q2⟩:=hi.env t _ ht;refine⟨u,q1,?_⟩;rw[(q2 g e k xs hO).2 rfl];exact row_RD (hi.obj id _ hO) h2 (fun b hb=>h3 _ b hO hb)
 ·rw[if_neg e']at hv;exact h1.env t' v hv
theorem St.frzBox{a:Act}{w:World}(id0 off:Nat){id g:Nat}{e:TypeId}{k:Nat}{xs:List (List D)}{T:TypeId}{cs:List AV}(hB:get? σ.objs id0=some (.box T cs))(hc:cs[off]?=some (.r id g))(hO:get? σ.objs id=some (.row g e k xs))(hs:St C σ a w):St C ⟨σ.env,(id0,.box T (cs.set off (.d (.l xs))))::(id,AO.dead)::σ.objs⟩ a w:=by
 obtain⟨β,hi⟩:=hs;obtain⟨h1,h2,h3⟩:=hi.kill id;have hne:id0≠id:=fun e=>by subst e;rw[hB]at hO;cases hO
 have hB1:get? ((id,AO.dead)::σ.objs) id0=some (.box T cs):=by rw[get?_cons,if_neg (Ne.symm hne)];exact hB
 refine⟨_,h1.upd (w':=w) id0 (.box T cs) (.box T (cs.set off (.d (.l xs)))) hB1 (bset β id undef id0) rfl rfl rfl (Nat.le_refl _) (fun _ _ _=>rfl) (fun b hb=>⟨.inl hb,(h1.own id0 _ b hB1 hb).2⟩) rfl fun hD hA=>?_⟩;obtain⟨b,us,q1,q2,q3,q4,q5⟩:=hi.obj id0 _ hB;obtain⟨b1,us1,r1,r2,r3,r4,r5⟩:=h1.obj id0 _ hB1;refine⟨b1,us1,by simpa[bset] using r1,r2,by simpa using r3,r4,fun i hi1 hi2=>?_⟩;have hi3:i<cs.length:=by simpa using hi2
 have hus:us1=us:=by
  have hb0:bset β id undef id0=β id0:=by simp[bset,hne]
  rw[hb0,q1]at r1;cases r1;rw[q2]at r2;injection r2 with r2;injection r2 with r2;have:=congrArg Array.toList r2;simpa using this.symm
 subst hus;by_cases e':off=i
 ·subst e';have hcs:cs[off]= .r id g:=by
   rw[List.getElem?_eq_getElem hi3]at hc;injection hc
  have:=q5 off hi1 hi3;rw[hcs]at this;simp only[List.getElem_set_self];rw[(this g e k xs hO).2 rfl];exact RD.mono (row_RD (hi.obj id _ hO) h2 (fun b hb=>h3 _ b hO hb)) fun b hb=>(hD b hb).1
 ·rw[List.getElem_set_ne e'];exact hA (r5 i hi1 hi3)
theorem Chain.frzVar{ops:Array Oper}{fin:List Inf→Prop}{K:AS→Prop}{rest:List Oper}(t:Nat){id g:Nat}{e:TypeId}{k:Nat}{xs:List (List D)}(ht:get? σ.env t=some (.r id g))(hO:get? σ.objs id=some (.row g e k xs))(h:Chain P C ops fin K none rest ⟨(t,.d (.l xs))::σ.env,(id,AO.dead)::σ.objs⟩):Chain P C ops fin K none rest σ:= .weak _ (fun _ _ hs=>hs.frzVar t ht hO) h
theorem Chain.frzBox{ops:Array Oper}{fin:List Inf→Prop}{K:AS→Prop}{rest:List Oper}(id0 off:Nat){id g:Nat}{e:TypeId}{k:Nat}{xs:List (List D)}{T:TypeId}{cs:List AV}(hB:get? σ.objs id0=some (.box T cs))(hc:cs[off]?=some (.r id g))(hO:get? σ.objs id=some (.row g e k xs))(h:Chain P C ops fin K none rest ⟨σ.env,(id0,.box T (cs.set off (.d (.l xs))))::(id,AO.dead)::σ.objs⟩):Chain P C ops fin K none rest σ:= .weak _ (fun _ _ hs=>hs.frzBox id0 off hB hc hO) h
theorem AC.frzVar{c:Code}{Q:Exit→AS→Prop}(t:Nat){id g:Nat}{e:TypeId}{k:Nat}{xs:List (List D)}(ht:get? σ.env t=some (.r id g))(hO:get? σ.objs id=some (.row g e k xs))(h:AC P C c Q ⟨(t,.d (.l xs))::σ.env,(id,AO.dead)::σ.objs⟩):AC P C c Q σ:= .weak _ (fun _ _ hs=>hs.frzVar t ht hO) h
theorem AC.frzBox{c:Code}{Q:Exit→AS→Prop}(id0 off:Nat){id g:Nat}{e:TypeId}{k:Nat}{xs:List (List D)}{T:TypeId}{cs:List AV}(hB:get? σ.objs id0=some (.box T cs))(hc:cs[off]?=some (.r id g))(hO:get? σ.objs id=some (.row g e k xs))(h:AC P C c Q ⟨σ.env,(id0,.box T (cs.set off (.d (.l xs))))::(id,AO.dead)::σ.objs⟩):AC P C c Q σ:= .weak _ (fun _ _ hs=>hs.frzBox id0 off hB hc hO) h
theorem Do.frz{v:AV}{R X:List Nat}(t:Nat){id g:Nat}{e:TypeId}{k:Nat}{xs:List (List D)}(ht:get? σ.env t=some (.r id g))(hO:get? σ.objs id=some (.row g e k xs))(hrd:t∈Oper.rd o)(hX:id∉X)
  (h:Do P C o ⟨(t,.d (.l xs))::σ.env,(id,.dead)::σ.objs⟩ v ⟨R,X,[],none⟩):Do P C o σ v ⟨id::R,X,[(id,.dead)],none⟩:=by
 intro σ' hl hd a w K Q' hs hk;have ht':get? σ'.env t=some (.r id g):=by
  rcases hl.env t hrd _ ht with h | h
  ·cases h
  ·exact h
 have hO':get? σ'.objs id=some (.row g e k xs):=by rw[hl.rd id (by simp)];exact hO
 refine h _ ⟨fun t2 h2 v2 hv2=>?_,fun i hi=>?_,fun i hi T cs hb=>?_,fun d hd=>by cases hd⟩ hd a w K Q' (hs.frzVar t ht' hO') fun a' w' hs'=>hk a' w' ?_
 ·rw[get?_cons]at hv2 ⊢;by_cases e':t=t2
  ·rw[if_pos e']at hv2 ⊢;exact .inr hv2
  ·rw[if_neg e']at hv2 ⊢;exact hl.env t2 h2 v2 hv2
 ·rw[get?_cons,get?_cons];by_cases e':id=i
  ·rw[if_pos e',if_pos e']
  ·rw[if_neg e',if_neg e'];exact hl.rd i (by simp[hi])
 ·rw[get?_cons]at hb ⊢;have hne:id≠i:=fun e=>hX (e▸hi);rw[if_neg hne]at hb ⊢;exact hl.box i hi T cs hb
 ·
  obtain⟨β,hi⟩:=hs';refine⟨β,hi.defs,hi.nt,hi.os,hi.tape,hi.output,hi.size,hi.fr,fun t2 v2 hv2=>?_,hi.obj,hi.dis,hi.own,hi.pin⟩;by_cases e':t=t2
  ·subst e';have hlk:get? (AS.upd σ' o.dst v [(id,.dead)]).env t=some v2:=hv2;rw[upd_env]at hlk;by_cases ed:o.dst=some t
   ·rw[if_pos ed]at hlk;exact hi.env t v2 (by rw[upd_env,if_pos ed];exact hlk)
   ·rw[if_neg ed,ht']at hlk;injection hlk with hlk;subst hlk;obtain⟨u,q1,q2⟩:=hi.env t (.d (.l xs)) (by rw[upd_env,if_neg ed,get?_cons,if_pos rfl]);refine⟨u,q1,fun g2 e2 k2 xs2 hO2=>?_⟩;have:get? ((id,AO.dead)::σ'.objs) id=some (.row g2 e2 k2 xs2):=hO2;rw[get?_cons,if_pos rfl]at this;cases this
  ·refine hi.env t2 v2 ?_;rw[upd_env]at hv2 ⊢;by_cases ed:o.dst=some t2
   ·rw[if_pos ed]at hv2 ⊢;exact hv2
   ·rw[if_neg ed]at hv2 ⊢;rw[get?_cons,if_neg e'];exact hv2
end
structure Wk(q:Prop):Prop where
 out:q
theorem wk{p q:Prop}(k:q)(hs:Wk q→p:=by
  intro k
  try (first | intro K ms hms hK | intro K hK)
  repeat (first
   | refine Chain.no rfl rfl ?_
   | refine Chain.noD rfl rfl ?_
   | ((first | apply Chain.go | apply Chain.goD);exact rfl;exact rfl;first
     | exact Loc.move (v:= .d _) rfl rfl
     | exact Loc.assign (v:= .d _) rfl rfl
     | exact Loc.loadP1 rfl rfl rfl rfl
     | exact Loc.loadQ1 rfl rfl rfl
     | exact Loc.fieldP rfl rfl rfl
     | exact Loc.fieldQ rfl rfl
     | exact Loc.pickT (v:= .d _) rfl rfl rfl
     | exact Loc.pickF (v:= .d _) rfl rfl rfl
     | exact Loc.loadPn rfl rfl rfl rfl (by kernel_rfl)
     | exact Loc.loadQw rfl rfl rfl
     | exact Loc.loadQn rfl rfl rfl rfl
     | exact Loc.idxM rfl rfl rfl rfl (by assumption) rfl
     | exact Loc.lenM rfl rfl
     | exact Loc.lenN rfl rfl
     | exact Loc.lenR rfl rfl rfl
     | exact Loc.len rfl rfl
     | exact Loc.lssT rfl rfl rfl (by omega)
     | exact Loc.lssF rfl rfl rfl (by omega)
     | exact Loc.eqlT rfl rfl rfl (by omega)
     | exact Loc.eqlF rfl rfl rfl (by omega)
     | exact Loc.neqT rfl rfl rfl (by omega)
     | exact Loc.neqF rfl rfl rfl (by omega)
     | exact Loc.gtrT rfl rfl rfl (by omega)
     | exact Loc.gtrF rfl rfl rfl (by omega)
     | exact Loc.geqT rfl rfl rfl (by omega)
     | exact Loc.geqF rfl rfl rfl (by omega)
     | exact Loc.leqT rfl rfl rfl (by omega)
     | exact Loc.leqF rfl rfl rfl (by omega)
     | exact Loc.add rfl rfl rfl (IntWalk.i64_in _ (by omega))
     | exact Loc.sub rfl rfl rfl (IntWalk.i64_in _ (by omega))
     | exact Loc.notT rfl rfl
     | exact Loc.notF rfl rfl
     | exact Loc.fieldE rfl rfl rfl
     | exact Loc.loadE1 rfl rfl rfl (by assumption) rfl
     | exact Loc.idxR rfl rfl rfl rfl rfl (by omega) rfl
     | exact Loc.move (v:= .g _) rfl rfl
     | exact Loc.move (v:= .p _ _) rfl rfl
     | exact Loc.move (v:= .r _ _) rfl rfl
     | exact Loc.move (v:= .t _) rfl rfl
     | exact Loc.assign (v:= .g _) rfl rfl
     | exact Loc.assign (v:= .r _ _) rfl rfl
     | exact Loc.assign (v:= .p _ _) rfl rfl
     | exact Loc.extract (v:= .d _) rfl rfl rfl rfl
     | exact Loc.extract (v:= .g _) rfl rfl rfl rfl
     | exact Loc.pickT (v:= .g _) rfl rfl rfl
     | exact Loc.pickF (v:= .g _) rfl rfl rfl
     | exact Loc.move (v:= .un) rfl rfl
     | exact Loc.build rfl rfl rfl rfl
     | exact Loc.litP rfl rfl rfl rfl rfl rfl rfl)
   | refine Chain.nil0 (hK _ ?_)
   | ((first | apply Chain.st | apply Chain.stD);exact rfl;exact rfl;(first
     | exact Do.storeP rfl rfl rfl rfl .g rfl rfl rfl
     | exact Do.storeP rfl rfl rfl rfl .d rfl rfl rfl
     | exact Do.storeP rfl rfl rfl rfl (.r rfl) rfl rfl rfl);exact rfl;exact rfl)
   | ((first | apply Chain.ef | apply Chain.efD);exact rfl;exact rfl;(first
     | exact Do.alloc rfl rfl rfl
     | exact Do.box rfl rfl rfl .g rfl
     | exact Do.box rfl rfl rfl .d rfl
     | exact Do.lit0 rfl rfl
     | exact Do.append1 rfl rfl rfl rfl rfl rfl (by first | omega | (simp;omega))
     | exact Do.appendN1 rfl rfl rfl rfl rfl rfl);exact rfl;exact rfl)
   | refine Chain.nilD (by rw[hms];kernel_rfl) (hK _ ?_)
   | refine Chain.noN rfl rfl ?_
   | refine AC.seq ?_
   | (refine AC.reg (by decide+kernel) ?_;intro K hK)
   | (refine AC.regG (by decide+kernel) ?_;intro K hK)
   | (refine AC.drw (by kernel_rfl) (by decide+kernel) ?_;intro K ms hms hK)
   | (refine AC.drwG (by kernel_rfl) (by decide+kernel) ?_;intro K ms hms hK)
   | refine AC.condT rfl ?_
   | refine AC.condF rfl ?_
   | refine AC.block ?_
   | refine AC.exit ?_
   | refine AC.ret ?_
   | refine AC.skip ?_)
  first
   | exact k.out
   | (revert K;exact k.out)
   | (revert K ms;exact k.out)):p:=hs ⟨k⟩
section
variable {P:Program}{C:Cx}{o:Oper}{σ:AS}
structure FnRow(P:Program)(f:FuncId)(args:List DV)(e:TypeId)(k:Nat)(xs:List (List D)):Prop where
 body:∃ fn,P.funcs[f]?=some fn∧fn.body.isNone=false∧(fn.name== "runtime.NumGoroutine")=false
 run:∀ (S:Nat→Prop) (w:World) (vs:List Value),(∀b,S b→b<w.heap.size)→RVs S w vs args→
  Calls P f vs.toArray w fun ev w'=>∃ v,ev= .returned v∧Ext w w'∧(∀b,blk v=some b→w.heap.size≤b∧b<w'.heap.size)∧RO (fun b=>((S b∨w.heap.size≤b)∧b<w'.heap.size)∧blk v≠some b) w' (fun _=>v) [] 0 (.row 0 e k xs)
structure FnS(P:Program)(f:FuncId)(e:TypeId)(k:Nat)(xs:List (List D))(args:List DV)(Post:List (List D)→Prop):Prop where
 body:∃ fn,P.funcs[f]?=some fn∧fn.body.isNone=false∧(fn.name== "runtime.NumGoroutine")=false
 run:∀ (S:Nat→Prop) (w:World) (v:Value) (vs:List Value),(∀b,S b→b<w.heap.size)→(∀b,blk v=some b→b<w.heap.size∧¬ S b)→RO S w (fun _=>v) [] 0 (.row 0 e k xs)→RVs S w vs args→
  Calls P f (v::vs).toArray w fun ev w'=>∃ u,ev= .returned u∧w'.os=w.os∧w'.tape=w.tape∧w'.output=w.output∧w.heap.size≤w'.heap.size∧(∀b,b<w.heap.size→blk v≠some b→w'.heap[b]?=w.heap[b]?)∧∃ xs',Post xs'∧RO (fun b=>((S b∨w.heap.size≤b)∧b<w'.heap.size)∧blk v≠some b) w' (fun _=>v) [] 0 (.row 0 e k xs')
theorem RO.row{S S':Nat→Prop}{w:World}{β β':Nat→Value}{O O':List (Nat×AO)}{id id' g g':Nat}{e:TypeId}{k:Nat}{xs:List (List D)}(h:RO S w β O id (.row g e k xs))(hb:β' id'=β id)(hs:∀ b,S b→S' b):RO S' w β' O' id' (.row g' e k xs):=by
 obtain⟨css,h1,h2,h3,h4⟩:=h;exact⟨css,h1,fun i h h'=>(h2 i h h').mono hs,h3,by rw[hb];exact h4⟩
theorem exec_call{f:FuncId}{a:Act}{w:World}{c:Operand}{xs:Array Operand}{ts:Array TypeId}(hb:∃ fn,P.funcs[f]?=some fn∧fn.body.isNone=false∧(fn.name== "runtime.NumGoroutine")=false)(ho:o.op= .call {callee:= .value c,args:=xs,argTypes:=ts })(hc:a.eval c= .func (.func f) #[] #[]):(execOp a.eval o).run P w= .ok (.enter f (xs.toList.map a.eval).toArray) w:=Loc.callVexec hb ho hc
theorem Do.callRow{f:FuncId}{args:List DV}{e:TypeId}{k d:Nat}{ys:List (List D)}{xs:Array Operand}{ts:Array TypeId}(hF:FnRow P f args e k ys)(ho:o.op= .call {callee:= .value (.func f),args:=xs,argTypes:=ts })(ha:argsOK σ xs.toList args)(hd:o.dst=some d):
  Do P C o σ (.r d 0) ⟨[],[],[(d,.row 0 e k ys)],some d⟩:=by
 intro σ' hl hdst a w K Q' ⟨β,hi⟩ hK;have hn:=hl.new d rfl;unfold Oper.wp;rw[exec_call hF.body ho rfl];have hmem:∀ x∈xs.toList,RA (Dat C β σ'.objs w) w β σ'.objs (a.eval x) (ev σ x):=fun x hx=>hl.ra hi (by rw[ho];simp only[Op.operands,Call.operands];simp at hx ⊢;exact .inr hx);have h1:=argsOK_out (σ:=σ) hi hmem ha;refine(hF.run _ w _ (fun b hb=>hb.2.1) h1).mono fun ev' w' ⟨v,he,hx,hblk,hv⟩=>?_;subst he;refine hK _ _ ⟨bset β d v,?_⟩;have hbd:bset β d v d=v:=by simp[bset]
 have:=Inv.put (hi.fresh d (dstOK.out hdst d hd) hn (.row 0 e k ys) hx v hblk (fun hD=>hv.row hbd fun b hb=>?_)) (some d) (fun t ht=>by cases ht;exact dstOK.out hdst d hd) (v:= .r d 0) (u:=v) ?_
 ·rw[hd];exact this
 ·rcases hb.1.1 with h | h
  ·exact(hD b h).1
  ·refine⟨.inr (.inl (Nat.le_trans hi.size h)),hb.1.2,fun id o' hid=>?_⟩;rw[get?_cons]at hid;by_cases e:d=id
   ·rw[←e,hbd];exact hb.2
   ·rw[if_neg e]at hid;simp only[bset,if_neg (Ne.symm e)];intro e2;have:=(hi.own id o' b hid e2).2;omega
 ·intro g' e2 k2 xs2 h4;rw[get?_cons,if_pos rfl]at h4;cases h4;exact⟨Nat.le_refl _,fun _=>hbd.symm⟩
theorem Chain.callS{E:List (Nat×AV)}{O:List (Nat×AO)}{ops:Array Oper}{fin:List Inf→Prop}{K:AS→Prop}{rest:List Oper}{d:Nat}{f:FuncId}{args:List DV}{e:TypeId}{k g id:Nat}{zs:List (List D)}{Post:List (List D)→Prop}{x:Operand}{xs:List Operand}{ts:Array TypeId}(hg:o.guard=none)(hd:o.dst=some d)(hF:FnS P f e k zs args Post)(ho:o.op= .call {callee:= .value (.func f),args:=⟨x::xs⟩,argTypes:=ts })(hx:ev ⟨E,O⟩ x= .r id g)(hO:get? O id=some (.row g e k zs))(ha:argsOK ⟨E,O⟩ xs args)
  (h:∀ zs',Post zs'→Chain P C ops fin K none rest ⟨(d,.un)::E,(id,.row g e k zs')::O⟩):Chain P C ops fin K none (o::rest) ⟨E,O⟩:=by
 refine .eff (fun σ'=>∃ zs',Post zs'∧σ'=⟨(d,.un)::E,(id,.row g e k zs')::O⟩) hg (fun hdst a w K Q' ⟨β,hi⟩ hK=>?_) (by rintro _ ⟨zs',h1,rfl⟩;exact h zs' h1);unfold Oper.wp;rw[exec_call hF.body ho rfl];have hmem:∀ y∈x::xs,RA (Dat C β O w) w β O (a.eval y) (ev ⟨E,O⟩ y):=fun y _=>hi.ev y;have hx1:=hmem x (by simp);rw[hx]at hx1;have hu:=(hx1 g e k zs hO).2 rfl;have h1:=argsOK_out (σ:=⟨E,O⟩) hi (fun y hy=>hmem y (by simp[hy])) ha;have hO1:=hi.obj id _ hO;have e0:((x::xs).map a.eval).toArray=(β id::xs.map a.eval).toArray:=by rw[List.map_cons,hu]
 show Calls _ _ ((x::xs).map a.eval).toArray _ _;rw[e0];refine(hF.run (Dat C β O w) w (β id) _ (fun b hb=>hb.2.1) (fun b hb=>⟨(hi.own id _ b hO hb).2,fun h=>h.2.2 id _ hO hb⟩) (hO1.row rfl fun _ h=>h) h1).mono fun ev' w' ⟨u,he,h2,h3,h4,h5,h6,zs',hp,h7⟩=>?_;subst he;refine hK _ _ _ ⟨zs',hp,rfl⟩ ⟨bset β id (β id),?_⟩;have hb1:bset β id (β id) id=β id:=by simp[bset]
 have:=(hi.upd id (.row g e k zs) (.row g e k zs') hO (β id) h2 h3 h4 h5 h6 (fun b hb=>⟨.inl hb,Nat.lt_of_lt_of_le (hi.own id _ b hO hb).2 h5⟩) ⟨Nat.le_refl _,fun _=>⟨rfl,rfl⟩⟩ fun hD _=>h7.row hb1 fun b hb=>?_).putUn o.dst (dstOK.out hdst) u
 ·rw[hd]at this ⊢;exact this
 ·rcases hb.1.1 with h | h
  ·exact(hD b h).1
  ·refine⟨.inr (.inl (Nat.le_trans hi.size h)),hb.1.2,fun i oi hid=>?_⟩;rw[get?_cons]at hid;by_cases e:id=i
   ·rw[←e,hb1];exact hb.2
   ·rw[if_neg e]at hid;simp only[bset,if_neg (Ne.symm e)];intro e2;have:=(hi.own i oi b hid e2).2;omega
theorem Loc.callV{f:FuncId}{args res:List DV}{c:Operand}{xs:Array Operand}{ts:Array TypeId}(hF:Fn P f args res)(ho:o.op= .call {callee:= .value c,args:=xs,argTypes:=ts })(hc:ev σ c= .d (.v (.func (.func f) #[] #[])))(ha:argsOK σ xs.toList args):Loc P C o σ (resAV res):=by
 intro σ' hl hd a w K Q' ⟨β,hi⟩ hk;unfold Oper.wp;have h0:=hl.ra hi (x:=c) (by rw[ho];simp only[Op.operands,Call.operands];simp);rw[hc]at h0;rw[exec_call hF.body ho (RA.val h0)];have hmem:∀ x∈xs.toList,RA (Dat C β σ'.objs w) w β σ'.objs (a.eval x) (ev σ x):=fun x hx=>hl.ra hi (by rw[ho];simp only[Op.operands,Call.operands];simp at hx ⊢;exact .inr hx);have h1:=argsOK_out (σ:=σ) hi hmem ha;refine(hF.run _ w _ (fun b hb=>hb.2.1) h1).mono fun e w' ⟨v,he,hx,hv⟩=>?_;subst he;have hfin:=(hi.ext hx).put _ (dstOK.out hd) (resAV_sound (xs:=res) (RA.same (w':=w') hv fun b hb=>⟨⟨by
  rcases hb.1 with h | h
  ·exact h.1
  ·exact .inr (.inl (Nat.le_trans hi.size h)),hb.2,fun id o' hid hbl=>by
  rcases hb.1 with h | h
  ·exact h.2.2 id o' hid hbl
  ·have:=(hi.own id o' b hid hbl).2;omega⟩,rfl⟩))
 refine hk _ _ ⟨β,?_⟩;cases e:o.dst with
 | none=>rw[e]at hfin;exact hfin
 | some d=>rw[e]at hfin;exact hfin
theorem Loc.callVD{f:FuncId}{args:List DV}{d:D}{c:Operand}{xs:Array Operand}{ts:Array TypeId}(hF:Fn P f args [.d d])(ho:o.op= .call {callee:= .value c,args:=xs,argTypes:=ts })(hc:ev σ c= .d (.v (.func (.func f) #[] #[])))(ha:argsOK σ xs.toList args):Loc P C o σ (.d d):=Loc.callV hF ho hc ha
def RetRow(rs:List ResultVar)(e:TypeId)(k:Nat)(xs:List (List D)):Exit→AS→Prop
 | .ret,σ=>∃ t id g,rs=[.tmp t]∧get? σ.env t=some (.r id g)∧get? σ.objs id=some (.row g e k xs)
 | .normal,σ=>∃ t id g,rs=[.tmp t]∧get? σ.env t=some (.r id g)∧get? σ.objs id=some (.row g e k xs)
 | _,_=>False
def RetS(nt:Nat)(e:TypeId)(k:Nat)(Post:List (List D)→Prop):Exit→AS→Prop
 | .ret,σ=>∃ xs,Post xs∧get? σ.objs nt=some (.row 0 e k xs)
 | .normal,σ=>∃ xs,Post xs∧get? σ.objs nt=some (.row 0 e k xs)
 | _,_=>False
theorem FnRow.of{f:FuncId}{fn:Func}{c:Code}{args:List DV}{e:TypeId}{k:Nat}{xs:List (List D)}{nt:Nat}{rs:List ResultVar}(hf:P.funcs[f]?=some fn)(hb:fn.body=some c)(hname:(fn.name== "runtime.NumGoroutine")=false)(hntm:fn.ntmps=nt)(hrs:fn.results=rs.toArray)(hnt:Nat.ble args.length nt=true)
  (h:∀ w0 S0,AC P ⟨w0,S0,[],nt⟩ c (RetRow rs e k xs) ⟨entry 0 args,[]⟩):FnRow P f args e k xs:=by
 subst hntm;rw[Nat.ble_eq]at hnt;refine⟨⟨fn,hf,by rw[hb];rfl,hname⟩,fun S w vs hS hvs=>?_⟩;refine calls_of_wp hf hb ?_
 let C:Cx:=⟨w,S,[],fn.ntmps⟩
 have hst:St C ⟨entry 0 args,[]⟩ {tmps:=vs.toArray++Array.replicate (fn.ntmps-vs.toArray.size) undef,defers:=[] } w:=by
  refine⟨fun _=>undef,rfl,?_,rfl,rfl,rfl,Nat.le_refl _,fun _ _ _=>rfl,fun t v ht=>?_,fun id o h=>by simp[get?]at h,fun i j oi oj b h=>by simp[get?]at h,fun i oi b h=>by simp[get?]at h,fun i x o h=>by simp[C]at h⟩
  ·simp only[Array.size_append,List.size_toArray,Array.size_replicate];rw[hvs.1];show args.length+(fn.ntmps-args.length)=fn.ntmps;omega
  ·obtain⟨j,h1,h2,h3⟩:=entry_get args 0 t v ht;have hj:j<vs.length:=by rw[hvs.1];exact h2
   have ht':t=j:=by omega
   subst ht';refine⟨vs[t],?_,?_⟩
   ·rw[Array.getElem?_append_left (by simpa using hj)];simp[hj]
   ·have:=(hvs.2 t hj h2).keep (S':=Dat C (fun _=>undef) [] w) (w':=w) fun b hb=>⟨⟨.inl hb,hS b hb,fun id o h=>by simp[get?]at h⟩,rfl⟩
    rw[←h3];cases e:args[t]with
    | d c=>rw[e]at this;exact this
    | g cs=>rw[e]at this;exact this
 refine Code.wp_mono ?_ (h w S _ w hst);rintro ee a' w' ⟨σ,h1,β,hi⟩;have hfin:(∃t id g,rs=[.tmp t]∧get? σ.env t=some (.r id g)∧get? σ.objs id=some (.row g e k xs))→a'.defers=[]∧∃ v,(results fn a'.tmps).run P w'= .ok v w'∧∃ v',Ending.returned v= .returned v'∧Ext w w'∧(∀b,blk v'=some b→w.heap.size≤b∧b<w'.heap.size)∧RO (fun b=>((S b∨w.heap.size≤b)∧b<w'.heap.size)∧blk v'≠some b) w' (fun _=>v') [] 0 (.row 0 e k xs):=by
  rintro ⟨t,id,g,q1,q2,q3⟩;obtain⟨u,p1,p2⟩:=hi.env _ _ q2;have p3:=(p2 _ _ _ _ q3).2 rfl;have hM:∀ b,¬Cx.M C b:=fun b hm=>by obtain⟨_,h,_⟩:=hm;cases h
  refine⟨hi.defs,u,?_,u,rfl,⟨hi.os,hi.tape,hi.output,hi.size,fun k hk=>hi.fr k hk (hM k)⟩,fun b hb=>?_,(hi.obj id _ q3).row p3 fun b hb=>⟨⟨?_,hb.2.1⟩,?_⟩⟩
  ·rw[results_eq,hrs,q1];simp[resM,Array.getD_eq_getD_getElem?,p1]
  ·have:=hi.own id _ b q3 (by rw[←p3];exact hb);rcases this.1 with h | h
   ·exact(hM b h).elim
   ·exact⟨h,this.2⟩
  ·rcases hb.1 with h | h | h
   ·exact .inl h
   ·exact .inr h
   ·exact(hM b h).elim
  ·rw[p3];exact hb.2.2 id _ q3
 cases ee with
 | ret=>exact hfin h1
 | normal=>exact hfin h1
 | _=>exact h1.elim
theorem FnS.of{f:FuncId}{fn:Func}{c:Code}{args:List DV}{e:TypeId}{k:Nat}{xs:List (List D)}{Post:List (List D)→Prop}{nt:Nat}(hf:P.funcs[f]?=some fn)(hb:fn.body=some c)(hname:(fn.name== "runtime.NumGoroutine")=false)(hntm:fn.ntmps=nt)(hrs:fn.results= #[])(hnt:Nat.ble (args.length+1) nt=true)
  (h:∀ w0 S0 v,AC P ⟨w0,S0,[v],nt⟩ c (RetS nt e k Post) ⟨(0,.r nt 0)::entry 1 args,[(nt,.row 0 e k xs)]⟩):FnS P f e k xs args Post:=by
 subst hntm;rw[Nat.ble_eq]at hnt;refine⟨⟨fn,hf,by rw[hb];rfl,hname⟩,fun S w v vs hS hv hRO hvs=>?_⟩;refine calls_of_wp hf hb ?_
 let C:Cx:=⟨w,S,[v],fn.ntmps⟩
 have hM:∀ b,Cx.M C b↔blk v=some b:=fun b=>⟨fun⟨x,h1,h2⟩=>by rw[List.mem_singleton.1 h1]at h2;exact h2,fun h=>⟨v,List.mem_singleton.2 rfl,h⟩⟩
 have hdat:∀ b,S b→Dat C (fun _=>v) [(fn.ntmps,.row 0 e k xs)] w b:=fun b hb=>⟨.inl hb,hS b hb,fun id o h e2=>(hv b e2).2 hb⟩
 have hst:St C ⟨(0,.r fn.ntmps 0)::entry 1 args,[(fn.ntmps,.row 0 e k xs)]⟩ {tmps:=(v::vs).toArray++Array.replicate (fn.ntmps-(v::vs).toArray.size) undef,defers:=[] } w:=by
  refine⟨fun _=>v,rfl,?_,rfl,rfl,rfl,Nat.le_refl _,fun _ _ _=>rfl,fun t u ht=>?_,fun id o h=>?_,fun i j oi oj b h h2=>?_,fun i oi b h h2=>⟨.inl ((hM b).2 h2),(hv b h2).1⟩,fun i x o h=>?_⟩
  ·simp only[Array.size_append,List.size_toArray,Array.size_replicate,List.length_cons];rw[hvs.1];show args.length+1+(fn.ntmps-(args.length+1))=fn.ntmps;omega
  ·rw[get?_cons]at ht;by_cases e0:0=t
   ·subst e0;rw[if_pos rfl]at ht;cases ht;refine⟨v,by rw[Array.getElem?_append_left (by simp)];simp,fun g' e2 k2 xs2 hO=>?_⟩;rw[get?_cons,if_pos rfl]at hO;cases hO;exact⟨Nat.le_refl _,fun _=>rfl⟩
   ·rw[if_neg e0]at ht;obtain⟨j,h1,h2,h3⟩:=entry_get args 1 t u ht;have hj:j<vs.length:=by rw[hvs.1];exact h2
    have ht':t=j+1:=by omega
    subst ht';refine⟨vs[j],?_,?_⟩
    ·rw[Array.getElem?_append_left (by simpa using hj)];simp[hj]
    ·have:=(hvs.2 j hj h2).keep (w':=w) fun b hb=>⟨hdat b hb,rfl⟩
     rw[←h3];cases e:args[j]with
     | d c=>rw[e]at this;exact this
     | g cs=>rw[e]at this;exact this
  ·rw[get?_cons]at h;by_cases e0:fn.ntmps=id
   ·rw[if_pos e0]at h;cases h;exact hRO.row rfl hdat
   ·rw[if_neg e0]at h;simp[get?]at h
  ·rw[get?_cons]at h h2;by_cases e1:fn.ntmps=i
   ·by_cases e2:fn.ntmps=j
    ·intros;omega
    ·rw[if_neg e2]at h2;simp[get?]at h2
   ·rw[if_neg e1]at h;simp[get?]at h
  ·intro _ _;cases i with
   | zero=>simp[C]at h;exact h
   | succ i=>simp[C]at h
 refine Code.wp_mono ?_ (h w S v _ w hst);rintro ee a' w' ⟨σ,h1,β,hi⟩;have hfin:(∃xs',Post xs'∧get? σ.objs fn.ntmps=some (.row 0 e k xs'))→a'.defers=[]∧∃ v1,(results fn a'.tmps).run P w'= .ok v1 w'∧∃ u,Ending.returned v1= .returned u∧w'.os=w.os∧w'.tape=w.tape∧w'.output=w.output∧w.heap.size≤w'.heap.size∧(∀b,b<w.heap.size→blk v≠some b→w'.heap[b]?=w.heap[b]?)∧∃ xs',Post xs'∧RO (fun b=>((S b∨w.heap.size≤b)∧b<w'.heap.size)∧blk v≠some b) w' (fun _=>v) [] 0 (.row 0 e k xs'):=fun⟨xs',hP,hO⟩=>by
  have hp:v=β fn.ntmps:=(hi.pin 0 v _ rfl hO rfl).symm;refine⟨hi.defs,.tuple #[],?_,_,rfl,hi.os,hi.tape,hi.output,hi.size,fun b hb hne=>hi.fr b hb (fun h=>hne ((hM b).1 h)),xs',hP,(hi.obj _ _ hO).row hp fun b hb=>⟨⟨?_,hb.2.1⟩,?_⟩⟩
  ·rw[results_eq,hrs];simp
  ·rcases hb.1 with h | h | h
   ·exact .inl h
   ·exact .inr h
   ·exact(hb.2.2 _ _ hO (by rw[←hp];exact(hM b).1 h)).elim
  ·rw[hp];exact hb.2.2 _ _ hO
 cases ee with
 | ret=>exact hfin h1
 | normal=>exact hfin h1
 | _=>exact h1.elim
theorem Chain.eqN{E:List (Nat×AV)}{O:List (Nat×AO)}{ops:Array Oper}{fin:List Inf→Prop}{K:AS→Prop}{rest:List Oper}{d t:Nat}{T T':TypeId}{xs:List (List D)}{e:TypeId}{k by_:Nat}(hg:o.guard=none)(hd:o.dst=some d)(ho:o.op= .binOp .eql T (.tmp t) (.const (.slice none 0 0)) T')(ht:get? E t=some (.d (.l xs)))[hS:Sl P T e k by_]
  (h1:xs=[]→∀ u,Chain P C ops fin K none rest ⟨(d,.d (.v (.bool true)))::(t,.d (.v u))::E,O⟩) (h2:∀ u,Chain P C ops fin K none rest ⟨(d,.d (.v (.bool false)))::(t,.d (.v u))::E,O⟩):Chain P C ops fin K none (o::rest) ⟨E,O⟩:=by
 refine .any (fun σ'=>∃ a n c,σ'=⟨(t,.d (.v (.slice a n c)))::E,O⟩∧(a=none→xs=[])) (fun a w ⟨β,hi⟩=>?_) ?_
 ·obtain⟨u,q1,q2⟩:=hi.env t _ ht;have q3:RD (Dat C β O w) w u (.l xs):=q2;obtain⟨ad,n,c,rfl,q4⟩:∃ ad n c,u= .slice ad n c∧(ad=none→xs=[]):=by
   cases q3 with
   | @l ad n c _ k us hn hc hm hk ha he=>
     refine⟨ad,n,c,rfl,fun h=>?_⟩;subst h;by_cases h0:0<n
     ·obtain⟨b,o,h,_⟩:=ha h0;cases h
     ·exact List.length_eq_zero_iff.1 (by omega)
  refine⟨_,⟨ad,n,c,rfl,q4⟩,β,hi.defs,hi.nt,hi.os,hi.tape,hi.output,hi.size,hi.fr,fun t2 v2 hv2=>?_,hi.obj,hi.dis,hi.own,hi.pin⟩;rw[get?_cons]at hv2;by_cases e':t=t2
  ·subst e';rw[if_pos rfl]at hv2;cases hv2;exact⟨_,q1,.v rfl⟩
  ·rw[if_neg e']at hv2;exact hi.env t2 v2 hv2
 ·rintro _ ⟨ad,n,c,rfl,q4⟩;have hgo:gst ops ⟨(t,.d (.v (.slice ad n c)))::E,O⟩ o=some true:=by unfold gst;rw[hg]
  have hL:Loc P C o ⟨(t,.d (.v (.slice ad n c)))::E,O⟩ (.d (.v (.bool ad.isNone))):=by
   refine Loc.one (X:= .tmp t) (x:= .d (.v (.slice ad n c))) (by rw[ho];simp[Op.operands]) (by simp[ev,get?_cons]) fun S w β O' a h=>?_;refine⟨.bool ad.isNone,?_,.mk rfl⟩;unfold execOp;rw[ho];have h0:=RA.val h;have hgu:(eqGuard .eql T (.tmp t) (.const (.slice none 0 0)) (.slice ad n c) (.slice none 0 0)).run P w= .ok () w:=by unfold eqGuard;simp
   have hbi:(binOp .eql T (.slice ad n c) (.slice none 0 0)).run P w= .ok (.bool ad.isNone) w:=by
    have hq:(Op.equalIn (9999+1) T (.slice ad n c) (.slice none 0 0)).run P w= .ok ad.isNone w:=by
     unfold Op.equalIn;rw[Sem.run_bind,run_underlying hS.e.under];cases ad<;>simp[Result.andThen_ok]
    simp only[binOp,Op.equal,Op.maxDepth,Sem.run_bind,hq,Result.andThen_ok];rfl
   have h1:a.eval (.const (.slice none 0 0))= .slice none 0 0:=rfl;simp[h0,h1,hgu,hbi]
  cases ad with
  | none=>exact .go hgo hd hL (h1 (q4 rfl) _)
  | some ad=>exact .go hgo hd hL (h2 _)
theorem Loc.conv{T T':TypeId}{x:Operand}{k k':IntKind}{n m:Int}(ho:o.op= .convert T T' x)(hx:ev σ x= .d (.v (.int k n)))[h:It P T k][h':It P T' k'](hw:k'.wrap n=m):Loc P C o σ (.d (.v (.int k' m))):=
 Loc.one (by rw[ho];simp[Op.operands]) hx fun S w β O a h1=>by
  refine⟨.int k' m,?_,.mk rfl⟩;unfold execOp;rw[ho];have e1:(convert T T' (.int k n)).run P w= .ok (.int k' m) w:=by
   unfold convert;rw[Sem.run_bind,run_underlying h.u,Result.andThen_ok,Sem.run_bind,run_underlying h'.u,Result.andThen_ok];simp[Conv.intToInt,hw]
  simp[RA.val h1,e1]
theorem Loc.shr1{T T':TypeId}{x y:Operand}{k:IntKind}{n:Int}(ho:o.op= .binOp .shr T x y T')(hx:ev σ x= .d (.v (.int k n)))(hy:ev σ y= .d (.v (.int k 1))):Loc P C o σ (.d (.v (.int k (n / 2)))):=
 Loc.bin ho hx hy (fun w=>by
  have:n.fdiv 2=n / 2:=Int.fdiv_eq_ediv_of_nonneg _ (by omega);cases k<;>simp[binOp,Op.shift,IntKind.bits,this]) rfl
theorem wrap_u64{n:Int}(h:0≤n)(h2:n<18446744073709551616):IntKind.wrap .u64 n=n:=by
 simp[IntKind.wrap,IntKind.bits,IntKind.signed];omega
theorem Loc.loadEw{T:TypeId}{x:Operand}{id g idx k:Nat}{e:TypeId}{xs:List (List D)}{cs:List D}{n:Nat}(ho:o.op= .load T x)(hx:ev σ x= .e id g idx 0)(hO:get? σ.objs id=some (.row g e k xs))[h:Sz P T true n](hi:xs[idx]?=some cs∧cs.length=4)(hn:4=n):LocR P C o σ (.g cs) id:=
 Loc.loadEn ho hx hO hi.1 (by simp[hi.2,hn,List.take_of_length_le]) (by rw[hi.2,hn])
theorem splice_whole{α:Type}{cs ds:List α}(h:cs.length=ds.length):splice cs 0 ds=ds:=by
 unfold splice;rw[List.drop_eq_nil_of_le (by omega)];simp
theorem Do.storeEw{T:TypeId}{x y:Operand}{id g idx k n:Nat}{e:TypeId}{xs:List (List D)}{ds:List D}(ho:o.op= .store T x y)(hx:ev σ x= .e id g idx 0)(hO:get? σ.objs id=some (.row g e k xs))(hi:∃ cs,xs[idx]?=some cs∧cs.length=4)(hy:ev σ y= .g ds)(hfg:ds.map D.fg=ds∧ds.length=4)[h:Sz P T true n](hn:4=n)(hk:n=k)(hd:o.dst=none):
  Do P C o σ .un ⟨[id],[],[(id,.row g e k (xs.set idx ds))],none⟩:=by
 obtain⟨cs,h1,h2⟩:=hi;have:=Do.storeE (P:=P) (C:=C) (T:=T) (n:=n) (h:=h) (off:=0) ho hx hO h1 hy rfl (by rw[←hn];exact hfg.2) (by rw[Nat.ble_eq];omega) hd;rw[hfg.1,splice_whole (by rw[h2,hfg.2])]at this;exact this
theorem AC.join{X:Type}{c c2:Code}{Q:Exit→AS→Prop}(F:X→AS)(I:X→Prop)(h:AC P C c (AThen (fun σ'=>∃ x,I x∧subEnv σ'.env (F x).env∧subObj σ'.objs (F x).objs) Q) σ)(h2:∀ x,I x→AC P C c2 Q (F x)):AC P C c (AThen (AC P C c2 Q) Q) σ:=
 h.mono fun e σ' hq=>by
  cases e with
  | normal=>
    obtain⟨x,h3,h4,h5⟩:=hq;exact .weak _ (fun _ _ hs=>hs.sub h4 h5) (h2 x h3)
  | _=>exact hq
end
section
variable {P:Program}{C:Cx}{o:Oper}{σ:AS}
theorem Loc.binB{op:BinOp}{T T':TypeId}{x y:Operand}{a b r:Bool}(ho:o.op= .binOp op T x y T')(hx:ev σ x= .d (.v (.bool a)))(hy:ev σ y= .d (.v (.bool b)))
  (hr:∀ w,(binOp op T (.bool a) (.bool b)).run P w= .ok (.bool r) w):Loc P C o σ (.d (.v (.bool r))):=
 Loc.two (by rw[ho];simp[Op.operands]) hx (by rw[ho];simp[Op.operands]) hy fun S w β O c h1' h2'=>by
  refine⟨.bool r,?_,.mk rfl⟩;unfold execOp;rw[ho];have hg:(eqGuard op T x y (.bool a) (.bool b)).run P w= .ok () w:=by
   unfold eqGuard;cases op<;>simp
  simp[RA.val h1',RA.val h2',hg,hr]
theorem Loc.eqB{T T':TypeId}{x y:Operand}{a b r:Bool}(ho:o.op= .binOp .eql T x y T')(hx:ev σ x= .d (.v (.bool a)))(hy:ev σ y= .d (.v (.bool b)))(hT:P.underlying T=some .bool)(hr:(a==b)=r):Loc P C o σ (.d (.v (.bool r))):=
 Loc.binB ho hx hy fun w=>by subst hr;simp[binOp,run_equal_bool _ _ _ _ hT]
theorem Loc.neB{T T':TypeId}{x y:Operand}{a b r:Bool}(ho:o.op= .binOp .neq T x y T')(hx:ev σ x= .d (.v (.bool a)))(hy:ev σ y= .d (.v (.bool b)))(hT:P.underlying T=some .bool)(hr:(a != b)=r):Loc P C o σ (.d (.v (.bool r))):=
 Loc.binB ho hx hy fun w=>by subst hr;simp[binOp,run_equal_bool _ _ _ _ hT];cases a<;>cases b<;>rfl
theorem RD.takeL{S:Nat→Prop}{w:World}{a:Option Addr}{n c:Nat}{xs:List (List D)}(h:RD S w (.slice a n c) (.l xs))(i:Nat)(hi:i≤xs.length):RD S w (.slice a i c) (.l (xs.take i)):=by
 obtain⟨h1,h2,h3,k,css,h4,h5,h6,h7⟩:=h.cells;refine RD.ofCells (k:=k) (css:=css.take i) (by simp;omega) (by omega) h3 (by simp;omega) (fun j hj=>?_) (fun j hj hj'=>?_) (fun h0=>?_)
 ·rw[List.getElem_take];exact h5 _ (by simp at hj;omega)
 ·rw[List.getElem_take,List.getElem_take];exact h6 j (by simp at hj;omega) (by simp at hj';omega)
 ·obtain⟨b,o,e,hb,hr⟩:=h7 (by omega);refine⟨b,o,e,hb,fun j hj=>?_⟩;rw[List.getElem_take];exact hr j (by simp at hj;omega)
theorem Loc.partH{T:TypeId}{x y:Operand}{e k by_:Nat}{xs:List (List D)}{n:Int}{kd:IntKind}(i:Nat)(ho:o.op= .slice T x none (some y) none)(hx:ev σ x= .d (.l xs))(hy:ev σ y= .d (.v (.int kd n)))(hn:n=(i:Int))(hi:i≤xs.length)[h:Sl P T e k by_]:Loc P C o σ (.d (.l (xs.take i))):=
 Loc.two (by rw[ho];simp[Op.operands]) hx (by rw[ho];simp[Op.operands]) hy fun S w β O c h1 h2=>by
  have e1:=RA.val h2;have h1:RD S w (c.eval x) (.l xs):=h1;generalize hu:c.eval x=u at h1;have hsl:∃ a m q,u= .slice a m q:=by cases h1;exact⟨_,_,_,rfl⟩
  obtain⟨a,m,q,rfl⟩:=hsl;have hm:=h1.cells;have ht:P.underlying T=some (.slice (P.elem T)):=by
   have:=h.e.under;unfold Program.elem;rw[this]
  obtain⟨inf,z,hi1,hi2,hi3,hi4⟩:=h.e.info;have he:P.elem T=e:=by
   have h3:=h.e.under;rw[ht]at h3;simpa using h3
  refine⟨.slice a i q,?_,h1.takeL i hi⟩;unfold execOp;rw[ho];have hr:=run_slice_h (P:=P) (w:=w) T a m q ht kd n (by omega) (by omega);have hsz:(sizeOf (P.elem T)).run P w= .ok k w:=by rw[he];simp[sizeOf,typeInfo,hi1,hi3]
  rw[hsz]at hr;have hfin:sliced a 0 n.toNat q k= .slice a i q:=by
   unfold sliced;have:a.map (·.add (0*k))=a:=by
    cases a with
    | none=>rfl
    | some a=>simp[Addr.add]
   rw[this,hn];simp
  simp only[Result.andThen]at hr;rw[hfin]at hr;simp[hu,e1,run_sliceAt_slice _ _ _ _ _ _ ht,hr]
theorem Loc.partM{α:Type}{f:α→List D}{ts:List α}{T:TypeId}{x y:Operand}{e k by_:Nat}{n:Int}{kd:IntKind}(i:Nat)(ho:o.op= .slice T x none (some y) none)(hx:ev σ x= .d (.l (ts.map f)))(hy:ev σ y= .d (.v (.int kd n)))(hn:n=(i:Int))(hi:i≤ts.length)[h:Sl P T e k by_]:Loc P C o σ (.d (.l ((ts.take i).map f))):=by
 rw[List.map_take];exact Loc.partH i ho hx hy hn (by simpa using hi)
theorem Do.appendF{s x:Operand}{T T':TypeId}{id g d:Nat}{e:TypeId}{k bytes:Nat}{xs ys:List (List D)}(ho:o.op= .call {callee:= .builtin .append,args:= #[s,x],argTypes:= #[T,T'] })(hd:o.dst=some d)(hs:ev σ s= .r id g)(hO:get? σ.objs id=some (.row g e k xs))(hx:ev σ x= .d (.l ys))[h:Sl P T e k bytes]{e' k' by':Nat}[h':Sl P T' e' k' by'](hk:∀ c∈ys,c.length=k)(hb:(xs.length+ys.length)*bytes≤140737488355328):
  Do P C o σ (.d (.l (xs++ys))) ⟨[id],[],[(id,.dead)],none⟩:=by
 intro σ' hl hdst a w K Q' hst hK;refine Do.append (P:=P) (C:=C) (T':=T') ho hd hs hO hx hk hb σ' ⟨hl.1,hl.2,hl.3,hl.4⟩ hdst a w K Q' hst fun a' w' hs'=>hK a' w' ?_;have h1:=hs'.frzVar d (id:=id) (g:=g+1) (e:=e) (k:=k) (xs:=xs++ys) (by simp[AS.upd,AS.put,hd,get?_cons]) (by simp[AS.upd,AS.put,hd,get?_cons]);refine h1.like (fun i=>?_) (fun t v ht=>?_)
 ·simp only[AS.upd,hd,get?_cons,List.cons_append,List.nil_append];by_cases e:id=i
  ·rw[if_pos e,if_pos e]
  ·rw[if_neg e,if_neg e,if_neg e]
 ·simp only[AS.upd,AS.put,hd,get?_cons]at ht ⊢;by_cases e:d=t
  ·rw[if_pos e]at ht ⊢;exact ht
  ·rw[if_neg e]at ht;rw[if_neg e,if_neg e];exact ht
theorem Do.setM{α:Type}{f:α→List D}{ts:List α}{t:α}(t':α){T:TypeId}{x y:Operand}{id g idx k n:Nat}{e:TypeId}{c:D}(ho:o.op= .store T x y)(hx:ev σ x= .e id g idx 0)(hO:get? σ.objs id=some (.row g e k (ts.map f)))(hi:ts[idx]?=some t)(h1:(f t).length=1)(hy:ev σ y= .d c)(hf:f t'=[c.fg])[h:Sz P T false n](hn:1=n)(hle:Nat.ble (0+n) k=true)(hd:o.dst=none):
  Do P C o σ .un ⟨[id],[],[(id,.row g e k ((ts.set idx t').map f))],none⟩:=by
 have:=Do.storeE (P:=P) (C:=C) (n:=n) (h:=h) ho hx hO (cs:=f t) (ds:=[c]) (by rw[List.getElem?_map,hi];rfl) hy rfl hn hle hd;have e1:splice (f t) 0 ([c].map D.fg)=f t':=by
  rw[hf];exact splice_whole (by rw[h1];rfl)
 rw[e1,←List.map_set]at this;exact this
theorem Do.makeM{α:Type}{f:α→List D}(z:α){T:TypeId}{lo co:Operand}{d:Nat}(l c:Nat){e:TypeId}{k bytes:Nat}{zs:List Value}{zd:List D}{kl kc:IntKind}(ho:o.op= .makeSlice T lo co)(hd:o.dst=some d)(hl:ev σ lo= .d (.v (.int kl (l:Int))))(hc:ev σ co= .d (.v (.int kc (c:Int))))[h:Sl P T e k bytes][hZ:Zr P e zs](hz:constDs zs=some zd)(hf:zd.map D.fg=f z)(hlc:l≤c)(hby:c*bytes≤140737488355328):
  Do P C o σ (.r d 0) ⟨[],[],[(d,.row 0 e k ((List.replicate l z).map f))],some d⟩:=by
 rw[List.map_replicate,←hf];exact Do.make ho hd hl hc hz hlc hby
end
section
variable {P:Program}{C:Cx}{o:Oper}{σ:AS}
theorem Loc.bin2{op:BinOp}{T T':TypeId}{x y:Operand}{k k':IntKind}{a b:Int}{v:Value}(ho:o.op= .binOp op T x y T')(hx:ev σ x= .d (.v (.int k a)))(hy:ev σ y= .d (.v (.int k' b)))
  (hr:∀ w,(binOp op T (.int k a) (.int k' b)).run P w= .ok v w) (h1:v.oneCell'=true):Loc P C o σ (.d (.v v)):=
 Loc.two (by rw[ho];simp[Op.operands]) hx (by rw[ho];simp[Op.operands]) hy fun S w β O c h1' h2'=>by
  refine⟨v,?_,.mk h1⟩;unfold execOp;rw[ho];have hg:(eqGuard op T x y (.int k a) (.int k' b)).run P w= .ok () w:=by
   unfold eqGuard;cases op<;>simp
  simp[RA.val h1',RA.val h2',hg,hr]
theorem Loc.shr{T T':TypeId}{x y:Operand}{k k':IntKind}{a m:Int}(c:Nat)(ho:o.op= .binOp .shr T x y T')(hx:ev σ x= .d (.v (.int k a)))(hy:ev σ y= .d (.v (.int k' c)))(hc:Nat.ble c k.bits=true)(hm:a.fdiv (2^c)=m):Loc P C o σ (.d (.v (.int k m))):=
 Loc.bin2 ho hx hy (fun w=>by
  rw[Nat.ble_eq]at hc;have e:min (Int.toNat (c:Int)) k.bits=c:=by omega
  have h1:(binOp .shr T (.int k a) (.int k' c))=Op.shift .shr k a k' c:=rfl;rw[h1];unfold Op.shift;rw[if_neg (by omega)];simp only[e,hm];rfl) rfl
def enBy(c:UInt8):List D:=[.v (.int .u8 (c.toNat:Int))]
theorem Loc.toStr{T T':TypeId}{x:Operand}{e:TypeId}{bs:List UInt8}(ho:o.op= .convert T T' x)(hx:ev σ x= .d (.l (bs.map enBy)))(hs:P.underlying T=some (.slice e))(he:P.underlying e=some (.int .u8))(hd:P.underlying T'=some .string):Loc P C o σ (.d (.v (.string ⟨bs.toArray⟩))):=
 Loc.one (by rw[ho];simp[Op.operands]) hx fun S w β O a h1=>by
  have h1:RD S w (a.eval x) (.l (bs.map enBy)):=h1;generalize hu:a.eval x=u at h1;refine⟨.string ⟨bs.toArray⟩,?_,.mk rfl⟩;unfold execOp;rw[ho];have hr:(convert T T' u).run P w= .ok (.string ⟨bs.toArray⟩) w:=by
   cases h1 with
   | @l a n c _ k us hn hc hm hk ha hel=>
     rw[List.length_map]at hn;by_cases h0:n=0
     ·have:bs=[]:=List.eq_nil_of_length_eq_zero (by omega);subst this;subst h0;cases a with
      | none=>exact run_convert_bytes_nil w T e hs he 0 c T' hd
      | some ad=>exact run_convert_bytes_back w T T' e _ c [] hs he hd fun j hj=>absurd hj (by simp)
     ·obtain⟨b,o2,rfl,hb,hcell⟩:=ha (by omega);have hk1:k=1:=by
       have:=hk 0 (by simp;omega);rw[List.getElem_map]at this;exact this.symm
      subst hk1;rw[hn];refine run_convert_bytes_back w T T' e _ c bs hs he hd fun j hj=>?_;have h2:=hcell j (by simpa using hj) 0 (by rw[List.getElem_map];exact Nat.zero_lt_one);have h3:=hel j (by simpa using hj) 0 (by rw[List.getElem_map];exact Nat.zero_lt_one);simp only[List.getElem_map,enBy,List.getElem_cons_zero]at h3;generalize us j 0=u at h2 h3;cases h3;rw[show (⟨b,o2,none⟩:Addr).add j=⟨b,o2+(j*1+0),none⟩by simp[Addr.add]];exact h2
  simp[hu,hr]
end
section
variable {P:Program}{C:Cx}{o:Oper}{σ:AS}
theorem Loc.strLen{T:TypeId}{x:Operand}{s:ByteArray}(ho:o.op= .call {callee:= .builtin .len,args:= #[x],argTypes:= #[T] })(hx:ev σ x= .d (.v (.string s)))(hT:P.underlying T=some .string):Loc P C o σ (.d (.v (.int .i64 (s.size:Int)))):=
 Loc.one (by rw[ho];simp[Op.operands,Call.operands]) hx fun S w β O a h=>by
  refine⟨_,?_,.mk rfl⟩;have e:=RA.val h;unfold execOp;rw[ho];simp[resolve,invoke,builtin,e,run_len_string _ _ _ _ hT,goInt]
theorem Loc.strEq{T T':TypeId}{x y:Operand}{s t:ByteArray}{r:Bool}(ho:o.op= .binOp .eql T x y T')(hx:ev σ x= .d (.v (.string s)))(hy:ev σ y= .d (.v (.string t)))(hr:(s.toList==t.toList)=r):Loc P C o σ (.d (.v (.bool r))):=
 Loc.two (by rw[ho];simp[Op.operands]) hx (by rw[ho];simp[Op.operands]) hy fun S w β O c h1' h2'=>by
  refine⟨.bool r,?_,.mk rfl⟩;unfold execOp;rw[ho];have hg:(eqGuard .eql T x y (.string s) (.string t)).run P w= .ok () w:=by
   unfold eqGuard;simp
  simp[RA.val h1',RA.val h2',hg,binOp,Op.stringOp,hr]
theorem Loc.strAdd{T T':TypeId}{x y:Operand}{s t:ByteArray}(ho:o.op= .binOp .add T x y T')(hx:ev σ x= .d (.v (.string s)))(hy:ev σ y= .d (.v (.string t)))(hl:s.size+t.size≤9223372036854775807):Loc P C o σ (.d (.v (.string (s++t)))):=
 Loc.two (by rw[ho];simp[Op.operands]) hx (by rw[ho];simp[Op.operands]) hy fun S w β O c h1' h2'=>by
  refine⟨.string (s++t),?_,.mk rfl⟩;unfold execOp;rw[ho];have hg:(eqGuard .add T x y (.string s) (.string t)).run P w= .ok () w:=by
   unfold eqGuard;simp
  have hs:(Op.stringOp .add s t).run P w= .ok (.string (s++t)) w:=by
   unfold Op.stringOp;rw[if_neg (by simp[IntKind.max,IntKind.signed,IntKind.bits];omega)];rfl
  simp[RA.val h1',RA.val h2',hg,binOp,hs]
def tx(l:List UInt8):ByteArray:=⟨l.toArray⟩
theorem tx_size(l:List UInt8):(tx l).size=l.length:=rfl
theorem tx_list(l:List UInt8):(tx l).toList=l:=by rw[ByteArray.toList_eq];rfl
theorem tx_app(l m:List UInt8):tx l++tx m=tx (l++m):=by
 apply ByteArray.ext;simp[tx,ByteArray.data_append]
theorem tx_inj{l m:List UInt8}(h:tx l=tx m):l=m:=by
 have:=congrArg ByteArray.toList h;rwa[tx_list,tx_list]at this
theorem Loc.strAt{T:TypeId}{x y:Operand}{l:List UInt8}{c:UInt8}{n:Int}{kd:IntKind}(i:Nat)(ho:o.op= .index T x y)(hx:ev σ x= .d (.v (.string (tx l))))(hy:ev σ y= .d (.v (.int kd n)))(hn:n=(i:Int))(hi:l[i]?=some c)(hT:P.underlying T=some .string):Loc P C o σ (.d (.v (.int .u8 (c.toNat:Int)))):=
 Loc.two (by rw[ho];simp[Op.operands]) hx (by rw[ho];simp[Op.operands]) hy fun S w β O a h1' h2'=>by
  subst hn;refine⟨_,?_,.mk rfl⟩;unfold execOp;rw[ho];obtain⟨h1,h2⟩:=List.getElem?_eq_some_iff.1 hi;have hr:=run_index_string (P:=P) w T (tx l) kd (i:Int) hT;have hlt:(0:Int)≤(i:Int)∧(i:Int)<(tx l).size:=⟨by omega,by rw[tx_size];omega⟩
  rw[dif_pos hlt]at hr;have hc:(tx l)[((i:Int)).toNat]'(by rw[tx_size];omega)=c:=by
   have e:(tx l)[((i:Int)).toNat]'(by rw[tx_size];omega)=l[i]:=by simp[tx,ByteArray.getElem_eq_getElem_data]
   rw[e,h2]
  rw[hc]at hr;simp[RA.val h1',RA.val h2',hr]
theorem Loc.strFrom{T:TypeId}{x y:Operand}{l:List UInt8}{n:Int}{kd:IntKind}(i:Nat)(ho:o.op= .slice T x (some y) none none)(hx:ev σ x= .d (.v (.string (tx l))))(hy:ev σ y= .d (.v (.int kd n)))(hn:n=(i:Int))(hi:i≤l.length)(hT:P.underlying T=some .string):Loc P C o σ (.d (.v (.string (tx (l.drop i))))):=
 Loc.two (by rw[ho];simp[Op.operands]) hx (by rw[ho];simp[Op.operands]) hy fun S w β O a h1' h2'=>by
  subst hn;refine⟨_,?_,.mk rfl⟩;unfold execOp;rw[ho];have hr:=run_slice_string_l (P:=P) w T (tx l) hT kd (i:Int) (by omega) (by rw[tx_size];omega);have he:(tx l).extract ((i:Int)).toNat (tx l).size=tx (l.drop i):=by
   apply ByteArray.ext;simp[tx,ByteArray.size];exact List.take_of_length_le (by simp)
  rw[he]at hr;simp[RA.val h1',RA.val h2',run_sliceAt_string _ _ _ _ _ _ hT,hr]
end
section
variable {P:Program}{C:Cx}{o:Oper}{σ:AS}
def hand:AO→Nat→AV
 | .row ..,id=> .r id 0
 | .box ..,id=> .p id 0
 | .own x _,_=> .d (.v x)
 | .dead,_=> .un
def gen:Nat→AO→AO
 | g,.row _ e k xs=> .row g e k xs
 | _,o=>o
inductive PlainO:AO→Prop
 | row {g:Nat} {e:TypeId} {k:Nat} {xs:List (List D)}:PlainO (.row g e k xs)
 | box {T:TypeId} {cs:List D}:PlainO (.box T (cs.map .d))
inductive Fits:AO→AO→Prop
 | row {e:TypeId} {k:Nat} {xs ys:List (List D)}:Fits (.row 0 e k xs) (.row 0 e k ys)
 | box {T T':TypeId} {cs ds:List D}:Fits (.box T (cs.map .d)) (.box T' (ds.map .d))
theorem Fits.pr{a b:AO}(h:Fits a b):PlainO b:=by cases h;exact .row;exact .box
def cellX:AV→D→Prop
 | .d c,c'=>c'=c∨c'=c.fg
 | _,_=>False
def cellsX:List AV→List D→Prop
 | [],[]=>True
 | v::vs,d::ds=>cellX v d∧cellsX vs ds
 | _,_=>False
inductive ResX (P:Program) (σ:AS):ResultVar→DV→Prop
 | d {t:Nat} {v:AV} {c:D} (h:get? σ.env t=some v) (hc:cellX v c):ResX P σ (.tmp t) (.d c)
 | g {t:Nat} {cs cs':List D} (h:get? σ.env t=some (.g cs)) (hc:cs'=cs∨cs'=cs.map D.fg):ResX P σ (.tmp t) (.g cs')
 | c1 {t T id:Nat} {T':TypeId} {v:AV} {cs:List AV} {c:D} {n:Nat} (h:get? σ.env t=some (.p id 0)) (hO:get? σ.objs id=some (.box T' (v::cs))) (hS:Sz P T false n) (hc:cellX v c):ResX P σ (.cell t T) (.d c)
 | cn {t T id:Nat} {T':TypeId} {cs:List AV} {ds:List D} {n:Nat} (h:get? σ.env t=some (.p id 0)) (hO:get? σ.objs id=some (.box T' cs)) (hS:Sz P T true n) (hn:cs.length=n) (hc:cellsX cs ds):ResX P σ (.cell t T) (.g ds)
def ressX(P:Program)(σ:AS):List ResultVar→List DV→Prop
 | [],[]=>True
 | r::rs,d::ds=>ResX P σ r d∧ressX P σ rs ds
 | _,_=>False
theorem cellX.out{S:Nat→Prop}{w:World}{β:Nat→Value}{O:List (Nat×AO)}{u:Value}{v:AV}{c:D}(h:cellX v c)(hu:RA S w β O u v):RD S w u c:=by
 cases v with
 | d c0=>
   have hu:RD _ w u c0:=hu;have h:c=c0∨c=c0.fg:=by cases c<;>exact h
   rcases h with h | h
   ·subst h;exact hu
   ·subst h;exact hu.fg
 | _=>cases c<;>exact h.elim
theorem cellsX.out{S:Nat→Prop}{w:World}{β:Nat→Value}{O:List (Nat×AO)}:∀ {us:List Value} {vs:List AV} {ds:List D},cellsX vs ds→us.length=vs.length→(∀i (h:i<us.length) (h':i<vs.length),RA S w β O us[i] vs[i])→RDs S w us ds
 | [],[],[],_,_,_=> .nil
 | u::us,v::vs,d::ds,⟨h1,h2⟩,hl,hr=> .cons (h1.out (hr 0 (by simp) (by simp))) (cellsX.out h2 (by simpa using hl) fun i h h'=>hr (i+1) (by simpa using h) (by simpa using h'))
 | [],_::_,_,_,h,_=>by simp at h
 | _::_,[],_,_,h,_=>by simp at h
 | _,[],_::_,h,_,_=>h.elim
 | _,_::_,[],h,_,_=>h.elim
theorem ResX.out{β:Nat→Value}{a:Act}{w:World}(hi:Inv C σ β a w){r:ResultVar}{x:DV}(h:ResX P σ r x):
  ∃u,Sem.run P (resM a.tmps r) w= .ok u w∧RV (Dat C β σ.objs w) w u x:=by
 cases h with
 | d h hc=>
   obtain⟨u,h1,h2⟩:=hi.env _ _ h;exact⟨u,by simp[resM,Array.getD_eq_getD_getElem?,h1],hc.out h2⟩
 | g h hc=>
   obtain⟨u,h1,us,h2,h3⟩:=hi.env _ _ h;refine⟨u,by simp[resM,Array.getD_eq_getD_getElem?,h1],us,h2,?_⟩;rcases hc with hc | hc
   ·subst hc;exact h3
   ·subst hc;exact h3.fg
 | @c1 t T id T' v cs c n h hO hSz hc=>
   obtain⟨u,h1,h2⟩:=hi.env _ _ h;obtain⟨b,hb,hu⟩:=h2 _ _ hO;obtain⟨b',us,hb',hh,hlen,hone,hr⟩:=hi.obj id _ hO;rw[hb]at hb';cases hb';have hlt:0<us.length:=by rw[hlen];simp
   obtain⟨d,hd1,hd2⟩:=hSz.u;have hl:=run_loadAt_one (P:=P) hd1 hd2 b 0 us[0] w (by simp[World.cell?,hh,hlt]);refine⟨us[0],?_,hc.out (hr 0 hlt (by simp))⟩;simp only[Instr.loadAt,Instr.sureAddr,Sem.run_bind,Sem.run_pure,Result.andThen_ok]at hl;simp[resM,Array.getD_eq_getD_getElem?,h1,hu,asAddr,hl]
 | @cn t T id T' cs ds n h hO hSz hn hc=>
   obtain⟨u,h1,h2⟩:=hi.env _ _ h;obtain⟨b,hb,hu⟩:=h2 _ _ hO;obtain⟨b',us,hb',hh,hlen,hone,hr⟩:=hi.obj id _ hO;rw[hb]at hb';cases hb';obtain⟨d,hd1,hd2⟩:=hSz.u;have hrg:w.rangeAt b 0 us:=by
    have:=box_range hh 0 us.length;simpa using this
   have hl:=run_loadVar_mid (P:=P) w b 0 T us d hrg hd1 hd2 (by rw[hSz.s,←hn,hlen]);refine⟨.agg us.toArray,?_,us,rfl,cellsX.out hc hlen hr⟩;simp[resM,Array.getD_eq_getD_getElem?,h1,hu,asAddr,hl]
theorem ressX_run{β:Nat→Value}{a:Act}{w:World}(hi:Inv C σ β a w):∀ {rs:List ResultVar} {ds:List DV},ressX P σ rs ds→∃ us:List Value,Sem.run P (rs.mapM (resM a.tmps)) w= .ok us w∧us.length=ds.length∧∀ i (h:i<us.length) (h':i<ds.length),RV (Dat C β σ.objs w) w us[i] ds[i]
 | [],[],_=>⟨[],by simp,rfl,fun i h=>absurd h (by simp)⟩
 | r::rs,d::ds,⟨h1,h2⟩=>by
   obtain⟨u,q1,q2⟩:=h1.out hi;obtain⟨us,r1,r2,r3⟩:=ressX_run hi h2;refine⟨u::us,?_,by simp[r2],fun i h h'=>?_⟩
   ·simp only[List.mapM_cons,Sem.run_bind,q1,r1,Result.andThen_ok];rfl
   ·cases i with
    | zero=>exact q2
    | succ i=>exact r3 i (by simpa using h) (by simpa using h')
 | [],_::_,h=>h.elim
 | _::_,[],h=>h.elim
theorem ressX.end{fn:Func}{res:List DV}{β:Nat→Value}{a:Act}{w:World}(hi:Inv C σ β a w)(h:ressX P σ fn.results.toList res):∃ v,(results fn a.tmps).run P w= .ok v w∧RA (Dat C β σ.objs w) w (fun _=>undef) [] v (resAV res):=by
 obtain⟨us,h1,h2,h3⟩:=ressX_run hi h;have hm:Sem.run P (fn.results.mapM (resM a.tmps)) w= .ok us.toArray w:=by
  rw[Array.mapM_eq_mapM_toList];simp only[Sem.run_map,h1,Result.andThen_ok]
 match us,res,h2,h3 with
 | [u],[x],_,h3=>
   refine⟨u,?_,?_⟩
   ·rw[results_eq,Sem.run_bind,hm];rfl
   ·have:=h3 0 (by simp) (by simp);cases x<;>exact this
 | [],[],_,h3=>exact⟨.tuple #[],by rw[results_eq,Sem.run_bind,hm];rfl,[],rfl,rfl,h3⟩
 | u1::u2::us,x1::x2::xs,h2,h3=>
   refine⟨.tuple (u1::u2::us).toArray,?_,_,rfl,h2,h3⟩;rw[results_eq,Sem.run_bind,hm];simp
theorem entry_app:∀ (xs:List DV) (i:Nat) (l:List (Nat×AV)) (t:Nat),t<i+xs.length→i≤t→get? (entry i xs++l) t=get? (entry i xs) t
 | [],i,l,t,h1,h2=>by simp at h1;omega
 | x::r,i,l,t,h1,h2=>by
   simp only[entry,List.cons_append];rw[get?_cons,get?_cons];by_cases e:i=t
   ·rw[if_pos e,if_pos e]
   ·rw[if_neg e,if_neg e];exact entry_app r (i+1) l t (by simp at h1;omega) (by omega)
theorem entry_out:∀ (xs:List DV) (i:Nat) (l:List (Nat×AV)) (t:Nat),(t<i∨i+xs.length≤t)→get? (entry i xs++l) t=get? l t
 | [],i,l,t,_=>rfl
 | x::r,i,l,t,h=>by
   simp only[entry,List.cons_append];simp only[List.length_cons]at h;rw[get?_cons,if_neg (by omega)];exact entry_out r (i+1) l t (by omega)
structure FnA(P:Program)(f:FuncId)(e:TypeId)(k:Nat)(xs:List (List D))(args:List DV)(ys:List (List D)):Prop where
 body:∃ fn,P.funcs[f]?=some fn∧fn.body.isNone=false∧(fn.name== "runtime.NumGoroutine")=false
 run:∀ (S:Nat→Prop) (w:World) (v:Value) (vs:List Value),(∀b,S b→b<w.heap.size)→(∀b,blk v=some b→b<w.heap.size∧¬ S b)→RO S w (fun _=>v) [] 0 (.row 0 e k xs)→RVs S w vs args→
  Calls P f (v::vs).toArray w fun ev w'=>∃ u,ev= .returned u∧w'.os=w.os∧w'.tape=w.tape∧w'.output=w.output∧w.heap.size≤w'.heap.size∧(∀b,b<w.heap.size→blk v≠some b→w'.heap[b]?=w.heap[b]?)∧(∀b,blk u=some b→(blk v=some b∨w.heap.size≤b)∧b<w'.heap.size)∧RO (fun b=>((S b∨w.heap.size≤b∨blk v=some b)∧b<w'.heap.size)∧blk u≠some b) w' (fun _=>u) [] 0 (.row 0 e k ys)
theorem Do.callA{f:FuncId}{args:List DV}{e:TypeId}{k g id:Nat}{zs ys:List (List D)}{x:Operand}{xs:List Operand}{ts:Array TypeId}(hF:FnA P f e k zs args ys)(ho:o.op= .call {callee:= .value (.func f),args:=⟨x::xs⟩,argTypes:=ts })(hx:ev σ x= .r id g)(hO:get? σ.objs id=some (.row g e k zs))(ha:argsOK σ xs args):
  Do P C o σ (.r id (g+1)) ⟨[id],[],[(id,.row (g+1) e k ys)],none⟩:=by
 intro σ' hl hdst ac w K Q' ⟨β,hi⟩ hK;unfold Oper.wp;rw[exec_call hF.body ho rfl];have hO':get? σ'.objs id=some (.row g e k zs):=by rw[hl.rd id (by simp)];exact hO
 have hmem:∀ y∈x::xs,RA (Dat C β σ'.objs w) w β σ'.objs (ac.eval y) (ev σ y):=fun y hy=>hl.ra hi (by rw[ho];simp only[Op.operands,Call.operands];simp at hy ⊢;exact .inr hy);have hx1:=hmem x (by simp);rw[hx]at hx1;have hu:=(hx1 g e k zs hO').2 rfl;have h1:=argsOK_out (σ:=σ) hi (fun y hy=>hmem y (by simp[hy])) ha;have hO1:=hi.obj id _ hO';have e0:((x::xs).map ac.eval).toArray=(β id::xs.map ac.eval).toArray:=by rw[List.map_cons,hu]
 show Calls _ _ ((x::xs).map ac.eval).toArray _ _;rw[e0];refine(hF.run (Dat C β σ'.objs w) w (β id) _ (fun b hb=>hb.2.1) (fun b hb=>⟨(hi.own id _ b hO' hb).2,fun h=>h.2.2 id _ hO' hb⟩) (hO1.row rfl fun _ h=>h) h1).mono fun ev' w' ⟨u,he,q2,q3,q4,q5,q6,q7,q8⟩=>?_;subst he;have hb1:bset β id u id=u:=by simp[bset]
 refine hK _ _ ⟨bset β id u,?_⟩;have:=(hi.upd id (.row g e k zs) (.row (g+1) e k ys) hO' u q2 q3 q4 q5 q6 q7 ⟨by omega,fun h=>by omega⟩ fun _ _=>q8.row hb1 fun c hc=>by
  refine⟨?_,hc.1.2,fun i oi hid=>?_⟩
  ·rcases hc.1.1 with h | h | h
   ·exact h.1
   ·exact .inr (.inl (Nat.le_trans hi.size h))
   ·rcases (hi.own id _ c hO' h).1 with h2 | h2
    ·exact .inr (.inr h2)
    ·exact .inr (.inl h2)
  ·rw[get?_cons]at hid;by_cases e:id=i
   ·rw[←e,hb1];exact hc.2
   ·rw[if_neg e]at hid;simp only[bset,if_neg (Ne.symm e)];intro e2;rcases hc.1.1 with h | h | h
    ·exact h.2.2 i oi hid e2
    ·have:=(hi.own i oi c hid e2).2;omega
    ·exact e (hi.dis id i _ oi c hO' hid h e2)).put o.dst (dstOK.out hdst) (u:=u) (v:= .r id (g+1)) fun g' e2 k2 xs2 h=>by
   rw[get?_cons,if_pos rfl]at h;cases h;exact⟨Nat.le_refl _,fun _=>hb1.symm⟩
 cases e:o.dst with
 | none=>rw[e]at this;exact this
 | some d=>rw[e]at this;exact this
def RetA(nt:Nat)(rs:List ResultVar)(e:TypeId)(k:Nat)(ys:List (List D)):Exit→AS→Prop
 | .ret,σ=>∃ t g,rs=[.tmp t]∧get? σ.env t=some (.r nt g)∧get? σ.objs nt=some (.row g e k ys)
 | .normal,σ=>∃ t g,rs=[.tmp t]∧get? σ.env t=some (.r nt g)∧get? σ.objs nt=some (.row g e k ys)
 | _,_=>False
theorem FnA.of{f:FuncId}{fn:Func}{c:Code}{args:List DV}{e:TypeId}{k:Nat}{xs ys:List (List D)}{nt:Nat}{rs:List ResultVar}(hf:P.funcs[f]?=some fn)(hb:fn.body=some c)(hname:(fn.name== "runtime.NumGoroutine")=false)(hntm:fn.ntmps=nt)(hrs:fn.results=rs.toArray)(hnt:Nat.ble (args.length+1) nt=true)
  (h:∀ w0 S0 v,AC P ⟨w0,S0,[v],nt⟩ c (RetA nt rs e k ys) ⟨(0,.r nt 0)::entry 1 args,[(nt,.row 0 e k xs)]⟩):FnA P f e k xs args ys:=by
 subst hntm;rw[Nat.ble_eq]at hnt;refine⟨⟨fn,hf,by rw[hb];rfl,hname⟩,fun S w v vs hS hv hRO hvs=>?_⟩;refine calls_of_wp hf hb ?_
 let C:Cx:=⟨w,S,[v],fn.ntmps⟩
 have hM:∀ b,Cx.M C b↔blk v=some b:=fun b=>⟨fun⟨x,h1,h2⟩=>by rw[List.mem_singleton.1 h1]at h2;exact h2,fun h=>⟨v,List.mem_singleton.2 rfl,h⟩⟩
 have hdat:∀ b,S b→Dat C (fun _=>v) [(fn.ntmps,.row 0 e k xs)] w b:=fun b hb=>⟨.inl hb,hS b hb,fun id o h e2=>(hv b e2).2 hb⟩
 have hst:St C ⟨(0,.r fn.ntmps 0)::entry 1 args,[(fn.ntmps,.row 0 e k xs)]⟩ {tmps:=(v::vs).toArray++Array.replicate (fn.ntmps-(v::vs).toArray.size) undef,defers:=[] } w:=by
  refine⟨fun _=>v,rfl,?_,rfl,rfl,rfl,Nat.le_refl _,fun _ _ _=>rfl,fun t u ht=>?_,fun id o h=>?_,fun i j oi oj b h h2=>?_,fun i oi b h h2=>⟨.inl ((hM b).2 h2),(hv b h2).1⟩,fun i x o h=>?_⟩
  ·simp only[Array.size_append,List.size_toArray,Array.size_replicate,List.length_cons];rw[hvs.1];show args.length+1+(fn.ntmps-(args.length+1))=fn.ntmps;omega
  ·rw[get?_cons]at ht;by_cases e0:0=t
   ·subst e0;rw[if_pos rfl]at ht;cases ht;refine⟨v,by rw[Array.getElem?_append_left (by simp)];simp,fun g' e2 k2 xs2 hO=>?_⟩;rw[get?_cons,if_pos rfl]at hO;cases hO;exact⟨Nat.le_refl _,fun _=>rfl⟩
   ·rw[if_neg e0]at ht;obtain⟨j,h1,h2,h3⟩:=entry_get args 1 t u ht;have hj:j<vs.length:=by rw[hvs.1];exact h2
    have ht':t=j+1:=by omega
    subst ht';refine⟨vs[j],?_,?_⟩
    ·rw[Array.getElem?_append_left (by simpa using hj)];simp[hj]
    ·have:=(hvs.2 j hj h2).keep (w':=w) fun b hb=>⟨hdat b hb,rfl⟩
     rw[←h3];cases e:args[j]with
     | d c=>rw[e]at this;exact this
     | g cs=>rw[e]at this;exact this
  ·rw[get?_cons]at h;by_cases e0:fn.ntmps=id
   ·rw[if_pos e0]at h;cases h;exact hRO.row rfl hdat
   ·rw[if_neg e0]at h;simp[get?]at h
  ·rw[get?_cons]at h h2;by_cases e1:fn.ntmps=i
   ·by_cases e2:fn.ntmps=j
    ·intros;omega
    ·rw[if_neg e2]at h2;simp[get?]at h2
   ·rw[if_neg e1]at h;simp[get?]at h
  ·intro _ _;cases i with
   | zero=>simp[C]at h;exact h
   | succ i=>simp[C]at h
 refine Code.wp_mono ?_ (h w S v _ w hst);rintro ee a' w' ⟨σ,h1,β,hi⟩;have hfin:(∃t g,rs=[.tmp t]∧get? σ.env t=some (.r fn.ntmps g)∧get? σ.objs fn.ntmps=some (.row g e k ys))→a'.defers=[]∧∃ v1,(results fn a'.tmps).run P w'= .ok v1 w'∧∃ u,Ending.returned v1= .returned u∧w'.os=w.os∧w'.tape=w.tape∧w'.output=w.output∧w.heap.size≤w'.heap.size∧(∀b,b<w.heap.size→blk v≠some b→w'.heap[b]?=w.heap[b]?)∧(∀b,blk u=some b→(blk v=some b∨w.heap.size≤b)∧b<w'.heap.size)∧RO (fun b=>((S b∨w.heap.size≤b∨blk v=some b)∧b<w'.heap.size)∧blk u≠some b) w' (fun _=>u) [] 0 (.row 0 e k ys):=by
  rintro ⟨t,g,q1,q2,q3⟩;obtain⟨u,p1,p2⟩:=hi.env _ _ q2;have p3:=(p2 _ _ _ _ q3).2 rfl;refine⟨hi.defs,u,?_,u,rfl,hi.os,hi.tape,hi.output,hi.size,fun b hb hne=>hi.fr b hb (fun h=>hne ((hM b).1 h)),fun b hb=>?_,?_⟩
  ·rw[results_eq,hrs,q1];simp[resM,Array.getD_eq_getD_getElem?,p1]
  ·have:=hi.own _ _ b q3 (by rw[←p3];exact hb);refine⟨?_,this.2⟩;rcases this.1 with h | h
   ·exact .inl ((hM b).1 h)
   ·exact .inr h
  ·refine(hi.obj _ _ q3).row p3 fun b hb=>⟨⟨?_,hb.2.1⟩,by rw[p3];exact hb.2.2 _ _ q3⟩
   rcases hb.1 with h | h | h
   ·exact .inl h
   ·exact .inr (.inl h)
   ·exact .inr (.inr ((hM b).1 h))
 cases ee with
 | ret=>exact hfin h1
 | normal=>exact hfin h1
 | _=>exact h1.elim
end
section
variable {P:Program}{C:Cx}{o:Oper}{σ:AS}
structure FnK(P:Program)(f:FuncId)(K:World→Prop)(args:List DV)(res:List DV):Prop where
 body:∃ fn,P.funcs[f]?=some fn∧fn.body.isNone=false∧(fn.name== "runtime.NumGoroutine")=false
 run:∀ (S:Nat→Prop) (w:World) (vs:List Value),K w→(∀b,S b→b<w.heap.size)→RVs S w vs args→
  Calls P f vs.toArray w fun e w'=>∃ v,e= .returned v∧Ext w w'∧RA (fun b=>(S b∨w.heap.size≤b)∧b<w'.heap.size) w' (fun _=>undef) [] v (resAV res)
def FV(P:Program)(w:World)(u:Value)(x:List DV)(r:Value):Prop:=∃ g cap,u= .func (.func g) #[] cap∧(∃fn,P.funcs[g]?=some fn∧fn.body.isNone=false∧(fn.name== "runtime.NumGoroutine")=false)∧
 ∀(S:Nat→Prop) (w':World) (vs:List Value),Ext w w'→(∀b,S b→b<w'.heap.size)→RVs S w' vs x→Calls P g (vs.toArray++cap) w' fun e w2=>e= .returned r∧Ext w' w2
structure FnB(P:Program)(g:FuncId)(x:List DV)(cs:List D)(r:Value):Prop where
 body:∃ fn,P.funcs[g]?=some fn∧fn.body.isNone=false∧(fn.name== "runtime.NumGoroutine")=false
 run:∀ (S:Nat→Prop) (w:World) (vs:List Value) (b:Nat) (us:List Value),(∀b,S b→b<w.heap.size)→S b→RVs S w vs x→RDs S w us cs→w.rangeAt b 0 us→
  Calls P g (vs++[Value.pointer (some ⟨b,0,none⟩)]).toArray w fun e w'=>e= .returned r∧Ext w w'
def boxR(b:Nat)(T:TypeId)(cs:List D):(Nat→Prop)→World→Prop:=fun S w=>∃ us:List Value,w.heap[b]?=some (.cells us.toArray T (0,0))∧RDs S w us cs
theorem boxR_stable(b:Nat)(T:TypeId)(cs:List D):RStable (.pointer (some ⟨b,0,none⟩)) (boxR b T cs):=fun _ _ _ _ ⟨us,h1,h2⟩ hs hb=>
 ⟨us,(hb b rfl).trans h1,h2.keep hs⟩
def boxO(b:Nat)(T:TypeId)(cs:List D):AO:= .own (.pointer (some ⟨b,0,none⟩)) (boxR b T cs)
theorem Chain.pin{E:List (Nat×AV)}{O:List (Nat×AO)}{ops:Array Oper}{fin:List Inf→Prop}{Q:AS→Prop}{rest:List Oper}{T:TypeId}(t id:Nat)(cs:List D)(ht:get? E t=some (.p id 0))(hO:get? O id=some (.box T (cs.map .d)))
  (h:∀ b,Chain P C ops fin Q none rest ⟨(t,.d (.v (.pointer (some ⟨b,0,none⟩))))::E,(id,boxO b T cs)::O⟩):Chain P C ops fin Q none rest ⟨E,O⟩:=by
 refine .any (fun σ'=>∃ b,σ'=⟨(t,.d (.v (.pointer (some ⟨b,0,none⟩))))::E,(id,boxO b T cs)::O⟩) (fun a w ⟨β,hi⟩=>?_) (by rintro _ ⟨b,rfl⟩;exact h b);obtain⟨b,us,h1,h2,h3,h4,h5⟩:=hi.obj id _ hO;obtain⟨u,hu1,hu2⟩:=hi.env t _ ht;obtain⟨b',hb1,hu3⟩:=hu2 _ _ hO;rw[h1]at hb1;cases hb1;refine⟨_,⟨b,rfl⟩,β,?_⟩;have hg:∀ i o',get? ((id,boxO b T cs)::O) i=some o'→(i=id∧o'=boxO b T cs)∨(i≠id∧get? O i=some o'):=fun i o' hi=>by
  rw[get?_cons]at hi;by_cases e:id=i
  ·rw[if_pos e]at hi;injection hi with hi;exact .inl ⟨e.symm,hi.symm⟩
  ·rw[if_neg e]at hi;exact .inr ⟨Ne.symm e,hi⟩
 have hobj:∀ i o',get? ((id,boxO b T cs)::O) i=some o'→∃ o2,get? O i=some o2:=fun i o' hi=>by
  rcases hg i o' hi with ⟨e,_⟩ | ⟨_,h⟩
  ·subst e;exact⟨_,hO⟩
  ·exact⟨_,h⟩
 have hD:∀ c,Dat C β O w c→Dat C β ((id,boxO b T cs)::O) w c∧w.heap[c]?=w.heap[c]?:=fun c hc=>⟨⟨hc.1,hc.2.1,fun i o' hi=>by
  obtain⟨o2,h⟩:=hobj i o' hi;exact hc.2.2 i o2 h⟩,rfl⟩
 have hA:∀ {u:Value} {x:AV},RA (Dat C β O w) w β O u x→RA (Dat C β ((id,boxO b T cs)::O) w) w β ((id,boxO b T cs)::O) u x:=fun h=>
  h.keep hD (fun i T' cs' hi=>by
   rcases hg i _ hi with ⟨_,h2⟩ | ⟨_,h2⟩
   ·cases h2
   ·exact⟨⟨T',cs',h2⟩,rfl⟩) (fun i g e k xs hi=>by
   rcases hg i _ hi with ⟨_,h2⟩ | ⟨_,h2⟩
   ·cases h2
   ·exact⟨g,e,k,xs,h2,Nat.le_refl _,fun _=>⟨rfl,rfl⟩⟩)
 refine⟨hi.defs,hi.nt,hi.os,hi.tape,hi.output,hi.size,hi.fr,fun t' v' ht'=>?_,fun i o' hid=>?_,fun i j oi oj c q1 q2 q3 q4=>?_,fun i oi c q1 q2=>?_,fun i x o' q1 q2 q3=>?_⟩
 ·simp only[get?_cons]at ht';by_cases e:t=t'
  ·rw[if_pos e]at ht';cases ht';exact⟨u,e▸hu1,by rw[hu3];exact .v rfl⟩
  ·rw[if_neg e]at ht';obtain⟨u',p1,p2⟩:=hi.env t' v' ht';exact⟨u',p1,hA p2⟩
 ·rcases hg i o' hid with ⟨e,e2⟩ | ⟨_,hid⟩
  ·subst e e2;refine⟨h1,⟨us,h2,h3.trans (by simp),fun j hj hj'=>?_⟩,boxR_stable b T cs⟩;have:=h5 j hj (by simpa using hj');rw[List.getElem_map]at this;exact RD.mono this fun c hc=>(hD c hc).1
  ·have h1:=hi.obj i o' hid;cases o' with
   | box T2 cs2=>
     obtain⟨b2,us2,q1,q2,q3,q4,q5⟩:=h1;exact⟨b2,us2,q1,q2,q3,q4,fun j hj hj'=>hA (q5 j hj hj')⟩
   | row g e2 k xs=>
     obtain⟨css,q1,q2,q3,q4⟩:=h1;exact⟨css,q1,fun j hj hj'=>(q2 j hj hj').mono fun c hc=>(hD c hc).1,q3,q4⟩
   | dead=>trivial
   | own x R=>exact⟨h1.1,h1.2.2 _ _ _ _ h1.2.1 hD fun _ _=>rfl,h1.2.2⟩
 ·obtain⟨o2,p1⟩:=hobj i oi q1;obtain⟨o3,p2⟩:=hobj j oj q2;exact hi.dis i j o2 o3 c p1 p2 q3 q4
 ·obtain⟨o2,p1⟩:=hobj i oi q1;exact hi.own i o2 c p1 q2
 ·rcases hg _ o' q2 with ⟨e,e2⟩ | ⟨_,q2⟩
  ·exact hi.pin i x _ q1 (e▸hO) rfl
  ·exact hi.pin i x o' q1 q2 q3
theorem FnB.fv{g:FuncId}{x:List DV}{cs:List D}{r:Value}(h:FnB P g x cs r){S:Nat→Prop}{w:World}{b:Nat}{T:TypeId}(hb:boxR b T cs S w)(hS:∀ b,S b→b<w.heap.size)(hlt:b<w.heap.size):FV P w (.func (.func g) #[] #[Value.pointer (some ⟨b,0,none⟩)]) x r:=by
 obtain⟨us,h1,h2⟩:=hb;refine⟨g,_,rfl,h.body,fun S' w' vs hx hS' hvs=>?_⟩;have e0:vs.toArray++ #[Value.pointer (some ⟨b,0,none⟩)]=(vs++[Value.pointer (some ⟨b,0,none⟩)]).toArray:=by simp
 rw[e0];have h1':w'.heap[b]?=some (.cells us.toArray T (0,0)):=(hx.block b hlt).trans h1;refine h.run (fun c=>S' c∨S c∨c=b) w' vs b us (fun c hc=>?_) (.inr (.inr rfl)) ⟨hvs.1,fun i h h'=>(hvs.2 i h h').keep fun c hc=>⟨.inl hc,rfl⟩⟩ (h2.keep fun c hc=>⟨.inr (.inl hc),hx.block c (hS c hc)⟩) ?_
 ·rcases hc with h | h | h
  ·exact hS' c h
  ·exact Nat.lt_of_lt_of_le (hS c h) hx.size
  ·subst h;exact Nat.lt_of_lt_of_le hlt hx.size
 ·have:=box_range h1' 0 us.length;simpa using this
theorem Loc.callW{f:FuncId}{Kw:World→Prop}{args res:List DV}{xs:Array Operand}{ts:Array TypeId}{R:List Nat}(hF:FnK P f Kw args res)(ho:o.op= .call {callee:= .value (.func f),args:=xs,argTypes:=ts })(ha:argsOK σ xs.toList args)(hK:∀ σ' β a w,(∀id,id∈R→get? σ'.objs id=get? σ.objs id)→Inv C σ' β a w→Kw w):Do P C o σ (resAV res) ⟨R,[],[],none⟩:=by
 intro σ' hl hd a w K Q' ⟨β,hi⟩ hk;unfold Oper.wp;rw[exec_call hF.body ho rfl];have hmem:∀ x∈xs.toList,RA (Dat C β σ'.objs w) w β σ'.objs (a.eval x) (ev σ x):=fun x hx=>hl.ra hi (by rw[ho];simp only[Op.operands,Call.operands];simp at hx ⊢;exact .inr hx);have h1:=argsOK_out (σ:=σ) hi hmem ha;refine(hF.run _ w _ (hK σ' β a w (fun id h=>hl.rd id h) hi) (fun b hb=>hb.2.1) h1).mono fun e w' ⟨v,he,hx,hv⟩=>?_;subst he;have hfin:=(hi.ext hx).put _ (dstOK.out hd) (resAV_sound (xs:=res) (RA.same (w':=w') hv fun b hb=>⟨⟨by
  rcases hb.1 with h | h
  ·exact h.1
  ·exact .inr (.inl (Nat.le_trans hi.size h)),hb.2,fun id o' hid hbl=>by
  rcases hb.1 with h | h
  ·exact h.2.2 id o' hid hbl
  ·have:=(hi.own id o' b hid hbl).2;omega⟩,rfl⟩))
 refine hk _ _ ⟨β,?_⟩;cases e:o.dst with
 | none=>rw[e]at hfin;exact hfin
 | some d=>rw[e]at hfin;exact hfin
theorem FnB.here{g:FuncId}{x:List DV}{cs:List D}{r:Value}(h:FnB P g x cs r){σ':AS}{β:Nat→Value}{a:Act}{w:World}(hi:Inv C σ' β a w){id b:Nat}{T:TypeId}(hO:get? σ'.objs id=some (boxO b T cs)):FV P w (.func (.func g) #[] #[Value.pointer (some ⟨b,0,none⟩)]) x r:=by
 obtain⟨h1,h2,_⟩:=hi.obj id _ hO;exact h.fv (S:=Dat C β σ'.objs w) h2 (fun b hb=>hb.2.1) (hi.own id _ b hO (by rw[h1];rfl)).2
theorem Fn.ofAt{f:FuncId}{fn:Func}{c:Code}{args res:List DV}{nt:Nat}{rs:List ResultVar}(hf:P.funcs[f]?=some fn)(hb:fn.body=some c)(hntm:fn.ntmps=nt)(hrs:fn.results=rs.toArray)(hnt:Nat.ble args.length nt=true)(w:World)(S:Nat→Prop)
  (h:AC P ⟨w,S,[],nt⟩ c (Ret P rs res) ⟨entry 0 args,[]⟩):∀ (vs:List Value),(∀b,S b→b<w.heap.size)→RVs S w vs args→
  Calls P f vs.toArray w fun e w'=>∃ v,e= .returned v∧Ext w w'∧RA (fun b=>(S b∨w.heap.size≤b)∧b<w'.heap.size) w' (fun _=>undef) [] v (resAV res):=by
 subst hntm;rw[Nat.ble_eq]at hnt;have hrs':fn.results.toList=rs:=by rw[hrs]
 intro vs hS hvs;refine calls_of_wp hf hb ?_
 let C:Cx:=⟨w,S,[],fn.ntmps⟩
 have hst:St C ⟨entry 0 args,[]⟩ {tmps:=vs.toArray++Array.replicate (fn.ntmps-vs.toArray.size) undef,defers:=[] } w:=by
  refine⟨fun _=>undef,rfl,?_,rfl,rfl,rfl,Nat.le_refl _,fun _ _ _=>rfl,fun t v ht=>?_,fun id o h=>by simp[get?]at h,fun i j oi oj b h=>by simp[get?]at h,fun i oi b h=>by simp[get?]at h,fun i x o h=>by simp[C]at h⟩
  ·simp only[Array.size_append,List.size_toArray,Array.size_replicate];rw[hvs.1];show args.length+(fn.ntmps-args.length)=fn.ntmps;omega
  ·obtain⟨j,h1,h2,h3⟩:=entry_get args 0 t v ht;have hj:j<vs.length:=by rw[hvs.1];exact h2
   have ht':t=j:=by omega
   subst ht';refine⟨vs[t],?_,?_⟩
   ·rw[Array.getElem?_append_left (by simpa using hj)];simp[hj]
   ·have:=(hvs.2 t hj h2).keep (S':=Dat C (fun _=>undef) [] w) (w':=w) fun b hb=>⟨⟨.inl hb,hS b hb,fun id o h=>by simp[get?]at h⟩,rfl⟩
    rw[←h3];cases e:args[t]with
    | d c=>rw[e]at this;exact this
    | g cs=>rw[e]at this;exact this
 refine Code.wp_mono ?_ (h _ w hst);rintro e a' w' ⟨σ,h1,β,hi⟩;have hfin:ressOK P σ rs res→a'.defers=[]∧∃ v,(results fn a'.tmps).run P w'= .ok v w'∧∃ v',Ending.returned v= .returned v'∧Ext w w'∧RA (fun b=>(S b∨w.heap.size≤b)∧b<w'.heap.size) w' (fun _=>undef) [] v' (resAV res):=fun hr=>by
  obtain⟨v,q1,q2⟩:=Ret.run hi (hrs'▸hr:ressOK P σ fn.results.toList res);refine⟨hi.defs,v,q1,v,rfl,⟨hi.os,hi.tape,hi.output,hi.size,fun k hk=>hi.fr k hk (by rintro ⟨_,h,_⟩;cases h)⟩,RA.same (w:=w') q2 fun b hb=>⟨⟨?_,hb.2⟩,rfl⟩⟩;rcases hb.1 with h | h | h
  ·exact .inl h
  ·exact .inr h
  ·obtain⟨_,h,_⟩:=h;cases h
 cases e with
 | ret=>exact hfin h1
 | normal=>exact hfin h1
 | _=>exact h1.elim
theorem FnK.of{f:FuncId}{fn:Func}{c:Code}{Kw:World→Prop}{args res:List DV}{nt:Nat}{rs:List ResultVar}(hf:P.funcs[f]?=some fn)(hb:fn.body=some c)(hname:(fn.name== "runtime.NumGoroutine")=false)(hntm:fn.ntmps=nt)(hrs:fn.results=rs.toArray)(hnt:Nat.ble args.length nt=true)
  (h:∀ w0 S0,Kw w0→AC P ⟨w0,S0,[],nt⟩ c (Ret P rs res) ⟨entry 0 args,[]⟩):FnK P f Kw args res:=by
 refine⟨⟨fn,hf,by rw[hb];rfl,hname⟩,fun S w vs hK hS hvs=>?_⟩;exact(Fn.ofAt hf hb hntm hrs hnt w S (h w S hK)) vs hS hvs
theorem FnB.of{g:FuncId}{fn:Func}{c:Code}{x:List DV}{cs:List D}{r:Value}{nt:Nat}{rs:List ResultVar}(hf:P.funcs[g]?=some fn)(hb:fn.body=some c)(hname:(fn.name== "runtime.NumGoroutine")=false)(hntm:fn.ntmps=nt)(hrs:fn.results=rs.toArray)(hnt:Nat.ble (x.length+1) nt=true)
  (h:∀ w0 S0,AC P ⟨w0,S0,[],nt⟩ c (Ret P rs [.d (.v r)]) ⟨entry 0 x++[(x.length,.q cs)],[]⟩):FnB P g x cs r:=by
 subst hntm;rw[Nat.ble_eq]at hnt;have hrs':fn.results.toList=rs:=by rw[hrs]
 refine⟨⟨fn,hf,by rw[hb];rfl,hname⟩,fun S w vs b us hS hb1 hvs hus hrg=>?_⟩;refine calls_of_wp hf hb ?_
 let C:Cx:=⟨w,S,[],fn.ntmps⟩
 have hD:∀ c,S c→Dat C (fun _=>undef) [] w c∧w.heap[c]?=w.heap[c]?:=fun c hc=>⟨⟨.inl hc,hS c hc,fun id o h=>by simp[get?]at h⟩,rfl⟩
 have hst:St C ⟨entry 0 x++[(x.length,.q cs)],[]⟩ {tmps:=(vs++[Value.pointer (some ⟨b,0,none⟩)]).toArray++Array.replicate (fn.ntmps-(vs++[Value.pointer (some ⟨b,0,none⟩)]).toArray.size) undef,defers:=[] } w:=by
  refine⟨fun _=>undef,rfl,?_,rfl,rfl,rfl,Nat.le_refl _,fun _ _ _=>rfl,fun t v ht=>?_,fun id o h=>by simp[get?]at h,fun i j oi oj b h=>by simp[get?]at h,fun i oi b h=>by simp[get?]at h,fun i x o h=>by simp[C]at h⟩
  ·simp only[Array.size_append,List.size_toArray,Array.size_replicate,List.length_append,List.length_cons,List.length_nil];rw[hvs.1];show x.length+1+(fn.ntmps-(x.length+1))=fn.ntmps;omega
  ·by_cases h1:t<x.length
   ·rw[entry_app x 0 _ t (by omega) (by omega)]at ht;obtain⟨j,e1,h2,h3⟩:=entry_get x 0 t v ht;obtain rfl:t=j:=by omega
    have hj:t<vs.length:=by rw[hvs.1];exact h2
    refine⟨vs[t],by rw[Array.getElem?_append_left (by simp;omega)];simp[List.getElem?_append_left hj,hj],?_⟩;have:=(hvs.2 t hj h2).keep (w':=w) hD;rw[←h3];cases e:x[t]with
    | d c=>rw[e]at this;exact this
    | g cs=>rw[e]at this;exact this
   ·rw[entry_out x 0 _ t (by omega),get?_cons]at ht;by_cases e0:x.length=t
    ·rw[if_pos e0]at ht;cases ht;refine⟨.pointer (some ⟨b,0,none⟩),by rw[Array.getElem?_append_left (by simp[hvs.1];omega)];simp[←e0,←hvs.1],b,0,us,rfl,(hD b hb1).1,hus.keep hD,hrg⟩
    ·rw[if_neg e0]at ht;simp[get?]at ht
 refine Code.wp_mono ?_ (h w S _ w hst);rintro e a' w' ⟨σ,h1,β,hi⟩;have hfin:ressOK P σ rs [.d (.v r)]→a'.defers=[]∧∃ v,(results fn a'.tmps).run P w'= .ok v w'∧Ending.returned v= .returned r∧Ext w w':=fun hr=>by
  obtain⟨v,q1,q2⟩:=Ret.run hi (hrs'▸hr:ressOK P σ fn.results.toList [.d (.v r)]);exact⟨hi.defs,v,q1,by rw[RA.val q2],⟨hi.os,hi.tape,hi.output,hi.size,fun k hk=>hi.fr k hk (by rintro ⟨_,h,_⟩;cases h)⟩⟩
 cases e with
 | ret=>exact hfin h1
 | normal=>exact hfin h1
 | _=>exact h1.elim
end
section
variable {P:Program}{C:Cx}{o:Oper}{σ:AS}
def mapR(P:Program)(K E:TypeId)(b n:Nat)(M:DataW Unit):(Nat→Prop)→World→Prop:=fun _ w=>w.ownsMap P K (plainElem P E) b n M
theorem mapR_stable(P:Program)(K E:TypeId)(b n:Nat)(M:DataW Unit):RStable (.map (some b)) (mapR P K E b n M):=fun S S' w w' h _ hb=>by
 obtain⟨es,clock,h1,h2⟩:=h;exact⟨es,clock,(hb b rfl).trans h1,h2⟩
def mapO(P:Program)(K E:TypeId)(b n:Nat)(M:DataW Unit):AO:= .own (.map (some b)) (mapR P K E b n M)
theorem Chain.mkMap{E:List (Nat×AV)}{O:List (Nat×AO)}{ops:Array Oper}{fin:List Inf→Prop}{Q:AS→Prop}{rest:List Oper}{d:Nat}{T:TypeId}(Kt Et:TypeId)(hg:o.guard=none)(hd:o.dst=some d)(ho:o.op= .makeMap T none)(hn:noRef ⟨E,O⟩ d=true)
  (h:∀ b,Chain P C ops fin Q none rest ⟨(d,.d (.v (.map (some b))))::E,(d,mapO P Kt Et b 0 (.map []))::O⟩):Chain P C ops fin Q none (o::rest) ⟨E,O⟩:=by
 refine .eff (fun σ'=>∃ b,σ'=⟨(d,.d (.v (.map (some b))))::E,(d,mapO P Kt Et b 0 (.map []))::O⟩) hg (fun hdst a w K Q' ⟨β,hi⟩ hK=>?_) (by rintro _ ⟨b,rfl⟩;exact h b);have hr:(execOp a.eval o).run P w= .ok (.value (.map (some w.heap.size))) (w.alloc (.map #[] 0)):=by
  unfold execOp;rw[ho];simp[run_makeMap]
 unfold Oper.wp;rw[hr];refine hK _ _ _ ⟨w.heap.size,rfl⟩ ⟨bset β d (.map (some w.heap.size)),?_⟩;have hx:Ext w (w.alloc (.map #[] 0)):=Below.al (Below.refl _ _) _;rw[hd];have:=(hi.fresh d (dstOK.out hdst d hd) (noRef.out hn) (mapO P Kt Et w.heap.size 0 (.map [])) hx (.map (some w.heap.size)) (fun b hb=>by cases hb;exact⟨Nat.le_refl _,by simp⟩) fun _=>⟨by simp[bset],World.ownsMap_made w P Kt _,mapR_stable _ _ _ _ _ _⟩).put (some d) (fun t ht=>by cases ht;exact dstOK.out hdst d hd) (u:= .map (some w.heap.size)) (v:= .d (.v (.map (some w.heap.size)))) (.v rfl);exact this
theorem vals_of{S:Nat→Prop}{w:World}{us xs:List Value}(h:RDs S w us (xs.map D.v)):us=xs:=by
 refine List.ext_getElem (by simpa using h.1) fun i h1 h2=>?_;have:=h.2 i h1 (by simpa using h2);rw[List.getElem_map]at this;generalize us[i]=u at this ⊢;generalize xs[i]'(by have:=h.1;simp at this;omega)=x at this ⊢;cases this;rfl
theorem Loc.lookM{T Kt Et:TypeId}{m x:Operand}{b n id:Nat}{M:DataW Unit}{xs:List Value}{kl:Lit}{c:Int}{r:Bool}(ho:o.op= .lookup T m x true)(hm:ev σ m= .d (.v (.map (some b))))(hO:get? σ.objs id=some (mapO P Kt Et b n M))(hx:ev σ x= .g (xs.map D.v))
  (hT:P.underlying T=some (.map Kt Et)) (hE:P.underlying Et=some (.int .i64)) (hz:∀ w,(zeroValue Et).run P w= .ok (.int .i64 0) w) (hk:Go.Maps.Keyed P Kt) (hkey:keyOf P Kt (.agg xs.toArray)=some kl) (hc:M.atKey kl (.lit (.int .i64 0))= .lit (.int .i64 c)) (hr:Go.Maps.has M kl=r):
  LocR P C o σ (.t [.d (.v (.int .i64 c)),.d (.v (.bool r))]) id:=by
 refine Loc.quiet fun σ' hl β a w hi=>?_;have h1:=hl.ra hi (x:=m) (by rw[ho];simp[Op.operands]);have h2:=hl.ra hi (x:=x) (by rw[ho];simp[Op.operands]);rw[hm]at h1;rw[hx]at h2;have e1:=RA.val h1;obtain⟨us,e2,h3⟩:=h2;have e3:=vals_of h3;subst e3;have hO':get? σ'.objs id=some (mapO P Kt Et b n M):=by rw[hl.rd id (by simp)];exact hO
 obtain⟨_,hown,_⟩:=hi.obj id _ hO';have hown:w.ownsMap P Kt (plainElem P Et) b n M:=hown;obtain⟨v,ps,hrun,hv⟩:=hown.look_ok hk hT (hz w) (plainElem_int hE (by decide)) hkey;obtain⟨c',rfl,hc',_⟩:=plainElem_int_inv hE hv;simp only[Prod.mk.injEq]at hc';rw[hc]at hc';obtain⟨hc',_⟩:=hc';cases hc';refine⟨.tuple #[.int .i64 c,.bool (Go.Maps.has M kl)],by unfold execOp;rw[ho];simp[e1,e2,hrun],[.int .i64 c,.bool (Go.Maps.has M kl)],rfl,rfl,fun i h h'=>?_⟩
 match i,h with
 | 0,_=>exact .v rfl
 | 1,_=>rw[hr];exact .v rfl
theorem Do.putM{T Kt Et:TypeId}{m x y:Operand}{b n id:Nat}{M:DataW Unit}{xs:List Value}{kl:Lit}{c:Int}(ho:o.op= .mapUpdate T m x y)(hm:ev σ m= .d (.v (.map (some b))))(hO:get? σ.objs id=some (mapO P Kt Et b n M))(hx:ev σ x= .g (xs.map D.v))(hy:ev σ y= .d (.v (.int .i64 c)))
  (hT:P.underlying T=some (.map Kt Et)) (hE:P.underlying Et=some (.int .i64)) (hk:Go.Maps.Keyed P Kt) (hkey:keyOf P Kt (.agg xs.toArray)=some kl) (hn:n≤1000000000) (hw:(Lit.int .i64 c).wf=true) (hd:o.dst=none):
  Do P C o σ .un ⟨[id],[],[(id,mapO P Kt Et b (n+1) (M.put kl (.lit (.int .i64 c))))],none⟩:=by
 intro σ' hl hdst a w K Q' ⟨β,hi⟩ hK;have h1:=hl.ra hi (x:=m) (by rw[ho];simp[Op.operands]);have h2:=hl.ra hi (x:=x) (by rw[ho];simp[Op.operands]);have h3:=hl.ra hi (x:=y) (by rw[ho];simp[Op.operands]);rw[hm]at h1;rw[hx]at h2;rw[hy]at h3;have e1:=RA.val h1;have e4:=RA.val h3;obtain⟨us,e2,h4⟩:=h2;have e3:=vals_of h4;subst e3;have hO':get? σ'.objs id=some (mapO P Kt Et b n M):=by rw[hl.rd id (by simp)];exact hO
 obtain⟨hb,hown,_⟩:=hi.obj id _ hO';have hown:w.ownsMap P Kt (plainElem P Et) b n M:=hown;obtain⟨w',hrun,hown',hgr⟩:=hown.update hk hT (by unfold maxLen;omega) (val:= .int .i64 c) hkey (plainElem_int hE hw);unfold Oper.wp;have hr:(execOp a.eval o).run P w= .ok .skip w':=by
  unfold execOp;rw[ho];simp[e1,e2,e4,hrun]
 rw[hr];refine hK _ _ ⟨bset β id (.map (some b)),?_⟩;have:=hi.upd id _ (mapO P Kt Et b (n+1) (M.put kl (.lit (.int .i64 c)))) hO' (.map (some b)) hgr.os hgr.tape hgr.output hgr.size (fun k hk hne=>hgr.block k hk fun e=>hne (by rw[hb,e];rfl)) (fun k hk2=>by
  cases hk2;exact⟨.inl (by rw[hb];rfl),Nat.lt_of_lt_of_le hown.lt hgr.size⟩) trivial fun _ _=>⟨by simp[bset],hown',mapR_stable _ _ _ _ _ _⟩
 rw[hd];exact this
end
section
variable {P:Program}{C:Cx}{o:Oper}{σ:AS}
theorem Fn.k{f:FuncId}{K:World→Prop}{args res:List DV}(h:Fn P f args res):FnK P f K args res:=⟨h.body,fun S w vs _=>h.run S w vs⟩
theorem kHere{K:World→Prop}(hst:∀ w w',K w→Ext w w'→K w')(h0:K C.w0)(hm:C.m=[]){R:List Nat}:∀ σ' β a w,(∀id,id∈R→get? σ'.objs id=get? σ.objs id)→Inv C σ' β a w→K w:=fun _ _ _ _ _ hi=>
 hst _ _ h0 ⟨hi.os,hi.tape,hi.output,hi.size,fun k hk=>hi.fr k hk (by rintro ⟨_,h,_⟩;rw[hm]at h;cases h)⟩
theorem Loc.callWD{f:FuncId}{K:World→Prop}{args:List DV}{c:D}{xs:Array Operand}{ts:Array TypeId}(hF:FnK P f K args [.d c])(ho:o.op= .call {callee:= .value (.func f),args:=xs,argTypes:=ts })(ha:argsOK σ xs.toList args)(hK:∀ σ' β a w,(∀id,id∈([]:List Nat)→get? σ'.objs id=get? σ.objs id)→Inv C σ' β a w→K w):Loc P C o σ (.d c):=Loc.callW hF ho ha hK
theorem Loc.callWG{f:FuncId}{K:World→Prop}{args:List DV}{cs:List D}{xs:Array Operand}{ts:Array TypeId}(hF:FnK P f K args [.g cs])(ho:o.op= .call {callee:= .value (.func f),args:=xs,argTypes:=ts })(ha:argsOK σ xs.toList args)(hK:∀ σ' β a w,(∀id,id∈([]:List Nat)→get? σ'.objs id=get? σ.objs id)→Inv C σ' β a w→K w):Loc P C o σ (.g cs):=Loc.callW hF ho ha hK
theorem Loc.callWT{f:FuncId}{K:World→Prop}{args:List DV}{x y:DV}{l:List DV}{xs:Array Operand}{ts:Array TypeId}(hF:FnK P f K args (x::y::l))(ho:o.op= .call {callee:= .value (.func f),args:=xs,argTypes:=ts })(ha:argsOK σ xs.toList args)(hK:∀ σ' β a w,(∀id,id∈([]:List Nat)→get? σ'.objs id=get? σ.objs id)→Inv C σ' β a w→K w):Loc P C o σ (.t (x::y::l)):=Loc.callW hF ho ha hK
end
class KSt (K:World→Prop):Prop where
 st:∀ w w',K w→Ext w w'→K w'
theorem c1{p q r:Prop}(h:r)(k:q)(hs:Wk r→Wk q→p:=by
  intro h k
  try (first | intro K ms hms hK | intro K hK)
  (first | apply Chain.go | apply Chain.goD);exact rfl;exact rfl
  focus
   first
    | (refine Loc.callD h.out rfl ?_;(repeat (first | exact trivial | refine⟨.inl rfl,?_⟩ | refine⟨.inr rfl,?_⟩));done)
    | (refine Loc.callG h.out rfl ?_;(repeat (first | exact trivial | refine⟨.inl rfl,?_⟩ | refine⟨.inr rfl,?_⟩));done)
    | (refine Loc.callT h.out rfl ?_;(repeat (first | exact trivial | refine⟨.inl rfl,?_⟩ | refine⟨.inr rfl,?_⟩));done)
    | (refine Loc.callWD h.out rfl ?_ (kHere KSt.st (by assumption) rfl);(repeat (first | exact trivial | refine⟨.inl rfl,?_⟩ | refine⟨.inr rfl,?_⟩));done)
    | (refine Loc.callWG h.out rfl ?_ (kHere KSt.st (by assumption) rfl);(repeat (first | exact trivial | refine⟨.inl rfl,?_⟩ | refine⟨.inr rfl,?_⟩));done)
    | (refine Loc.callWT h.out rfl ?_ (kHere KSt.st (by assumption) rfl);(repeat (first | exact trivial | refine⟨.inl rfl,?_⟩ | refine⟨.inr rfl,?_⟩));done)
  first
   | exact k.out
   | (revert K;exact k.out)
   | (revert K ms;exact k.out)):p:=hs ⟨h⟩ ⟨k⟩
theorem cc{p q r:Prop}(h:r)(k:q)(hs:Wk r→Wk q→p:=by
  intro h k;exact c1 h.out (wk k.out)):p:=hs ⟨h⟩ ⟨k⟩
theorem s1{p a q1 q2:Prop}(k1:a→q1)(k2:¬ a→q2)(hs:Wk (a→q1)→Wk (¬a→q2)→p:=by
  intro k1 k2
  try (first | intro K ms hms hK | intro K hK)
  first
   | refine Chain.lss rfl rfl rfl rfl rfl (fun h=>?_) (fun h=>?_)
   | refine Chain.lssD rfl rfl rfl rfl rfl (fun h=>?_) (fun h=>?_)
   | refine Chain.eql rfl rfl rfl rfl rfl (fun h=>?_) (fun h=>?_)
   | refine Chain.eqlD rfl rfl rfl rfl rfl (fun h=>?_) (fun h=>?_)
   | refine Chain.neq rfl rfl rfl rfl rfl (fun h=>?_) (fun h=>?_)
   | refine Chain.neqD rfl rfl rfl rfl rfl (fun h=>?_) (fun h=>?_)
   | refine Chain.gtr rfl rfl rfl rfl rfl (fun h=>?_) (fun h=>?_)
   | refine Chain.gtrD rfl rfl rfl rfl rfl (fun h=>?_) (fun h=>?_)
   | refine Chain.geq rfl rfl rfl rfl rfl (fun h=>?_) (fun h=>?_)
   | refine Chain.geqD rfl rfl rfl rfl rfl (fun h=>?_) (fun h=>?_)
   | refine Chain.leq rfl rfl rfl rfl rfl (fun h=>?_) (fun h=>?_)
   | refine Chain.leqD rfl rfl rfl rfl rfl (fun h=>?_) (fun h=>?_)
  ·have k3:=k1.out h
   first
    | exact k3
    | (clear k1 k2;revert K;exact k3)
    | (clear k1 k2;revert K ms;exact k3)
  ·have k3:=k2.out h
   first
    | exact k3
    | (clear k1 k2;revert K;exact k3)
    | (clear k1 k2;revert K ms;exact k3)):p:=hs ⟨k1⟩ ⟨k2⟩
end Go.Proofs.YtbbpecfapohlaaaGreatDoor
