import Derived.Test.YthdkkpocihkgbaaGreatDoorPrI
import Derived.Test.YthdkkpocihkgbaaGreatDoorOx
set_option maxRecDepth 100000
set_option maxHeartbeats 8000000
namespace Go.Proofs.YthdkkpocihkgbaaGreatDoor
open Go.RowKit
section
variable {P:Program}{C:Cx}{o:Oper}{σ:AS}
structure FnB2(P:Program)(g:FuncId)(x:List DV)(cs ds:List D)(r:Value):Prop where
 body:∃ fn,P.funcs[g]?=some fn∧fn.body.isNone=false∧(fn.name== "runtime.NumGoroutine")=false
 run:∀ (S:Nat→Prop) (w:World) (vs:List Value) (b c:Nat) (us zs:List Value),(∀b,S b→b<w.heap.size)→S b→S c→RVs S w vs x→RDs S w us cs→w.rangeAt b 0 us→RDs S w zs ds→w.rangeAt c 0 zs→
  Calls P g (vs++[Value.pointer (some ⟨b,0,none⟩),Value.pointer (some ⟨c,0,none⟩)]).toArray w fun e w'=>e= .returned r∧bg w w'
theorem FnB2.fv{g:FuncId}{x:List DV}{cs ds:List D}{r:Value}(h:FnB2 P g x cs ds r){S:Nat→Prop}{w:World}{b c:Nat}{T T':TypeId}(hb:fm b T cs S w)(hc:fm c T' ds S w)(hS:∀ b,S b→b<w.heap.size)(hlt:b<w.heap.size)(hlc:c<w.heap.size):FV P w (.func (.func g) #[] #[Value.pointer (some ⟨b,0,none⟩),Value.pointer (some ⟨c,0,none⟩)]) x r:=by
 obtain⟨us,h1,h2⟩:=hb;obtain⟨zs,h3,h4⟩:=hc;refine⟨g,_,rfl,h.body,fun S' w' vs hx hS' hvs=>?_⟩;have e0:vs.toArray++ #[Value.pointer (some ⟨b,0,none⟩),Value.pointer (some ⟨c,0,none⟩)]=(vs++[Value.pointer (some ⟨b,0,none⟩),Value.pointer (some ⟨c,0,none⟩)]).toArray:=by simp
 rw[e0];have h1':w'.heap[b]?=some (.cells us.toArray T (0,0)):=(hx.block b hlt).trans h1;have h3':w'.heap[c]?=some (.cells zs.toArray T' (0,0)):=(hx.block c hlc).trans h3;refine h.run (fun k=>S' k∨S k∨k=b∨k=c) w' vs b c us zs (fun k hk=>?_) (.inr (.inr (.inl rfl))) (.inr (.inr (.inr rfl))) ⟨hvs.1,fun i h h'=>(hvs.2 i h h').keep fun c hc=>⟨.inl hc,rfl⟩⟩ (h2.keep fun c hc=>⟨.inr (.inl hc),hx.block c (hS c hc)⟩) ?_ (h4.keep fun c hc=>⟨.inr (.inl hc),hx.block c (hS c hc)⟩) ?_
 ·rcases hk with h | h | h | h
  ·exact hS' k h
  ·exact Nat.lt_of_lt_of_le (hS k h) hx.size
  ·subst h;exact Nat.lt_of_lt_of_le hlt hx.size
  ·subst h;exact Nat.lt_of_lt_of_le hlc hx.size
 ·have:=gR h1' 0 us.length;simpa using this
 ·have:=gR h3' 0 zs.length;simpa using this
theorem FnB2.here{g:FuncId}{x:List DV}{cs ds:List D}{r:Value}(h:FnB2 P g x cs ds r){σ':AS}{β:Nat→Value}{a:Act}{w:World}(hi:Inv C σ' β a w){id id2 b c:Nat}{T T':TypeId}(hO:af σ'.objs id=some (bL b T cs))(hO2:af σ'.objs id2=some (bL c T' ds)):FV P w (.func (.func g) #[] #[Value.pointer (some ⟨b,0,none⟩),Value.pointer (some ⟨c,0,none⟩)]) x r:=by
 obtain⟨h1,h2,_⟩:=hi.obj id _ hO;obtain⟨h3,h4,_⟩:=hi.obj id2 _ hO2;exact h.fv (S:=Dat C β σ'.objs w) h2 h4 (fun b hb=>hb.2.1) (hi.own id _ b hO (by rw[h1];rfl)).2 (hi.own id2 _ c hO2 (by rw[h3];rfl)).2
theorem Loc.EG{g:FuncId}{x y:Operand}{u v:Value}(ho:o.op= .makeFunc (.func g) #[] #[x,y])(hx:ev σ x= .d (.v u))(hy:ev σ y= .d (.v v)):Loc P C o σ (.d (.v (.func (.func g) #[] #[u,v]))):=
 Loc.two (by rw[ho];simp[Op.operands]) hx (by rw[ho];simp[Op.operands]) hy fun S w β O a h h2=>⟨.func (.func g) #[] #[u,v],by unfold execOp;rw[ho];simp[Instr.makeFunc,RA.val h,RA.val h2],.mk rfl⟩
theorem FnB2.of{g:FuncId}{fn:Func}{c:Code}{x:List DV}{cs ds:List D}{r:Value}{nt:Nat}{rs:List ResultVar}(hf:P.funcs[g]?=some fn)(hb:fn.body=some c)(hname:(fn.name== "runtime.NumGoroutine")=false)(hntm:fn.ntmps=nt)(hrs:fn.results=rs.toArray)(hnt:Nat.ble (x.length+2) nt=true)
  (h:∀ w0 S0,AC P ⟨w0,S0,[],nt⟩ c (Ret P rs [.d (.v r)]) ⟨cR 0 x++[(x.length,.q cs),(x.length+1,.q ds)],[]⟩):FnB2 P g x cs ds r:=by
 subst hntm;rw[Nat.ble_eq]at hnt;have hrs':fn.results.toList=rs:=by rw[hrs]
 refine⟨⟨fn,hf,by rw[hb];rfl,hname⟩,fun S w vs b b2 us zs hS hb1 hb2 hvs hus hrg hzs hrg2=>?_⟩;refine calls_of_wp hf hb ?_
 let C:Cx:=⟨w,S,[],fn.ntmps⟩
 have hD:∀ c,S c→Dat C (fun _=>undef) [] w c∧w.heap[c]?=w.heap[c]?:=fun c hc=>⟨⟨.inl hc,hS c hc,fun id o h=>by simp[af]at h⟩,rfl⟩
 have hst:St C ⟨cR 0 x++[(x.length,.q cs),(x.length+1,.q ds)],[]⟩ {tmps:=(vs++[Value.pointer (some ⟨b,0,none⟩),Value.pointer (some ⟨b2,0,none⟩)]).toArray++Array.replicate (fn.ntmps-(vs++[Value.pointer (some ⟨b,0,none⟩),Value.pointer (some ⟨b2,0,none⟩)]).toArray.size) undef,defers:=[] } w:=by
  refine⟨fun _=>undef,rfl,?_,rfl,rfl,rfl,Nat.le_refl _,fun _ _ _=>rfl,fun t v ht=>?_,fun id o h=>by simp[af]at h,fun i j oi oj b h=>by simp[af]at h,fun i oi b h=>by simp[af]at h,fun i x o h=>by simp[C]at h⟩
  ·simp only[Array.size_append,List.size_toArray,Array.size_replicate,List.length_append,List.length_cons,List.length_nil];rw[hvs.1];show x.length+2+(fn.ntmps-(x.length+2))=fn.ntmps;omega
  ·by_cases h1:t<x.length
   ·rw[nz x 0 _ t (by omega) (by omega)]at ht;obtain⟨j,e1,h2,h3⟩:=eW x 0 t v ht;obtain rfl:t=j:=by omega
    have hj:t<vs.length:=by rw[hvs.1];exact h2
    refine⟨vs[t],by rw[Array.getElem?_append_left (by simp;omega)];simp[List.getElem?_append_left hj,hj],?_⟩;have:=(hvs.2 t hj h2).keep (w':=w) hD;rw[←h3];cases e:x[t]with
    | d c=>rw[e]at this;exact this
    | g cs=>rw[e]at this;exact this
   ·rw[nB x 0 _ t (by omega),ai]at ht;by_cases e0:x.length=t
    ·rw[if_pos e0]at ht;cases ht;refine⟨.pointer (some ⟨b,0,none⟩),by rw[Array.getElem?_append_left (by simp[hvs.1];omega)];simp[←e0,←hvs.1],b,0,us,rfl,(hD b hb1).1,hus.keep hD,hrg⟩
    ·rw[if_neg e0,ai]at ht;by_cases e1:x.length+1=t
     ·rw[if_pos e1]at ht;cases ht;refine⟨.pointer (some ⟨b2,0,none⟩),by rw[Array.getElem?_append_left (by simp[hvs.1];omega)];simp[←e1,←hvs.1],b2,0,zs,rfl,(hD b2 hb2).1,hzs.keep hD,hrg2⟩
     ·rw[if_neg e1]at ht;simp[af]at ht
 refine Code.wp_mono ?_ (h w S _ w hst);rintro e a' w' ⟨σ,h1,β,hi⟩;have hfin:dB P σ rs [.d (.v r)]→a'.defers=[]∧∃ v,(results fn a'.tmps).run P w'= .ok v w'∧Ending.returned v= .returned r∧bg w w':=fun hr=>by
  obtain⟨v,q1,q2⟩:=Ret.run hi (hrs'▸hr:dB P σ fn.results.toList [.d (.v r)]);exact⟨hi.defs,v,q1,by rw[RA.val q2],⟨hi.os,hi.tape,hi.output,hi.size,fun k hk=>hi.fr k hk (by rintro ⟨_,h,_⟩;cases h)⟩⟩
 cases e with
 | ret=>exact hfin h1
 | normal=>exact hfin h1
 | _=>exact h1.elim
end
theorem Ch.fO{P:Program}{C:Cx}{E:List (Nat×AV)}{O:List (Nat×AO)}{ops:Array Oper}{fin:List Inf→Prop}{Q:AS→Prop}{rest:List Oper}{T:TypeId}(t id:Nat)(cs:List D)(ht:af E t=some (.p id 0))(hO:af O id=some (.box T (cs.map .d)))
  (h:∀ b,Ch P C ops fin Q none rest ⟨(t,.d (.v (aT b 0)))::E,(id,bL b T cs)::O⟩):Ch P C ops fin Q none rest ⟨E,O⟩:=Ch.pin t id cs ht hO h
attribute [local irreducible] AC Do St
theorem wq{p q:Prop}(k:q)(hs:Wk q→p:=by
  intro k
  try (first | intro K ms hms hK | intro K hK)
  repeat (first
   | refine Ch.no rfl rfl ?_
   | refine Ch.iX rfl rfl ?_
   | ((first | apply Ch.go | apply Ch.ah);exact rfl;exact rfl;first
     | exact Loc.move (v:= .d _) rfl rfl
     | exact Loc.assign (v:= .d _) rfl rfl
     | exact Loc.oy rfl rfl
     | exact Loc.u7 rfl rfl
     | exact Loc.eC (id:=4) rfl rfl rfl rfl
     | exact Loc.eC (id:=5) rfl rfl rfl rfl
     | exact Loc.c7 rfl rfl rfl rfl
     | exact Loc.cU rfl rfl rfl
     | exact Loc.cY rfl rfl rfl
     | exact Loc.cV rfl rfl
     | exact Loc.bh (v:= .d _) rfl rfl rfl
     | exact Loc.bk (v:= .d _) rfl rfl rfl
     | exact Loc.cz rfl rfl rfl rfl (by kernel_rfl)
     | exact Loc.cZ rfl rfl rfl
     | exact Loc.cQ rfl rfl rfl rfl
     | exact Loc.ea rfl rfl rfl rfl (by assumption) rfl
     | exact Loc.fN rfl rfl
     | exact Loc.fP rfl rfl
     | exact Loc.fM rfl rfl rfl
     | exact Loc.len rfl rfl
     | exact Loc.eb rfl rfl rfl (by omega)
     | exact Loc.eG rfl rfl rfl (by omega)
     | exact Loc.ec rfl rfl rfl (by omega)
     | exact Loc.eE rfl rfl rfl (by omega)
     | exact Loc.eP rfl rfl rfl (by omega)
     | exact Loc.eM rfl rfl rfl (by omega)
     | exact Loc.eD rfl rfl rfl (by omega)
     | exact Loc.eF rfl rfl rfl (by omega)
     | exact Loc.gn rfl rfl rfl (by omega)
     | exact Loc.gp rfl rfl rfl (by omega)
     | exact Loc.gG rfl rfl rfl (by omega)
     | exact Loc.gH rfl rfl rfl (by omega)
     | exact Loc.add rfl rfl rfl (IntWalk.i64_in _ (by omega))
     | exact Loc.sub rfl rfl rfl (IntWalk.i64_in _ (by omega))
     | exact Loc.fL rfl rfl
     | exact Loc.fJ rfl rfl
     | exact Loc.cW rfl rfl rfl
     | exact Loc.c8 rfl rfl rfl (by assumption) rfl
     | exact Loc.cB rfl rfl rfl rfl rfl (by omega) rfl
     | exact Loc.move (v:= .g _) rfl rfl
     | exact Loc.move (v:= .p _ _) rfl rfl
     | exact Loc.move (v:= .r _ _) rfl rfl
     | exact Loc.move (v:= .t _) rfl rfl
     | exact Loc.assign (v:= .g _) rfl rfl
     | exact Loc.assign (v:= .r _ _) rfl rfl
     | exact Loc.assign (v:= .p _ _) rfl rfl
     | exact Loc.extract (v:= .d _) rfl rfl rfl rfl
     | exact Loc.extract (v:= .g _) rfl rfl rfl rfl
     | exact Loc.bh (v:= .g _) rfl rfl rfl
     | exact Loc.bk (v:= .g _) rfl rfl rfl
     | exact Loc.move (v:= .un) rfl rfl
     | exact Loc.build rfl rfl rfl rfl)
   | refine Ch.eO (hK _ ?_)
   | ((first | apply Ch.st | apply Ch.aU);exact rfl;exact rfl;(first
     | exact Do.dt (id:=4) rfl rfl rfl rfl rfl rfl rfl rfl
     | exact Do.aC rfl rfl rfl rfl .g rfl rfl rfl
     | exact Do.aC rfl rfl rfl rfl .d rfl rfl rfl
     | exact Do.aC rfl rfl rfl rfl (.r rfl) rfl rfl rfl);exact rfl;exact rfl)
   | ((first | apply Ch.ef | apply Ch.bU);exact rfl;exact rfl;(first
     | exact Do.alloc rfl rfl rfl
     | exact Do.box rfl rfl rfl .g rfl
     | exact Do.box rfl rfl rfl .d rfl
     | exact Do.fI rfl rfl
     | exact Do.ck rfl rfl rfl rfl rfl rfl (by first | omega | (simp;omega))
     | exact Do.bS rfl rfl rfl rfl rfl rfl);exact rfl;exact rfl)
   | refine Ch.fK (by rw[hms];kernel_rfl) (hK _ ?_)
   | refine Ch.iY rfl rfl ?_
   | refine AC.seq ?_
   | (refine AC.mm (by decide+kernel) ?_;intro K hK)
   | (refine AC.ox (by decide+kernel) ?_;intro K hK)
   | (refine AC.qG (by kernel_rfl) (by decide+kernel) ?_;intro K ms hms hK)
   | (refine AC.pD (by kernel_rfl) (by decide+kernel) ?_;intro K ms hms hK)
   | refine AC.jg rfl ?_
   | refine AC.ji rfl ?_
   | refine AC.block ?_
   | refine AC.exit ?_
   | refine AC.ret ?_
   | refine AC.skip ?_)
  first
   | exact k.out
   | (revert K;exact k.out)
   | (revert K ms;exact k.out)):p:=hs ⟨k⟩
theorem El(xs:List Tm)(p:Tm→Bool)(u:Value)(hlen:xs.length≤9223372036854775807):FnK Tryz.prog 134 (fun w=>∀ x∈xs,FV Tryz.prog w u [.g (dw x)] (.bool (p x))) [.d (.l (xs.map dw)),.d (.v u)] [.d (.v (.int .i64 (nW xs p)))]:=by
 refine FnK.of Tryz.func134 rfl (by kernel_rfl) Tryz.ntmps134 Tryz.results134 rfl fun w0 S0 hK0=>?_;refine wk ?_;refine AC.loop (X:=Nat) (fun i=>⟨[(0,.d (.l (xs.map dw))),(1,.d (.v u)),(7,.d (.v (.int .i64 (xs.length:Int)))),(8,.d (.v (.int .i64 (i:Int))))],[]⟩) (fun i=>i≤xs.length∧∀ x∈xs.take i,p x=false) (fun i=>xs.length-i) 0 ⟨Nat.zero_le _,by simp⟩ ⟨rfl,rfl,rfl,rfl,trivial⟩ trivial ?_;intro i ⟨hi,hb⟩;refine wk ?_;refine s1 (fun h1=>?_) (fun h1=>?_)
 ·have hi':i<xs.length:=by omega
  have hget:xs[i]?=some xs[i]:=List.getElem?_eq_getElem hi';have hF:=hK0 xs[i] (List.getElem_mem hi');obtain⟨hno,hyes⟩:=r9 hi' hb;generalize xs[i]=x at hget hF hno hyes;refine wk ?_;((try (first | intro K ms hms hK | intro K hK));(first | apply Ch.go | apply Ch.ah);exact rfl;exact rfl;exact Loc.AM hF rfl rfl rfl ⟨.inl rfl,trivial⟩ rfl);cases hp:p x with
  | true=>
    refine wk ?_;rw[hyes hp];exact⟨.d rfl (.inl rfl),trivial⟩
  | false=>
    refine wk ?_;exact⟨i+1,⟨by omega,hno hp⟩,by omega,⟨rfl,rfl,rfl,rfl,trivial⟩,trivial⟩
 ·rw[List.take_of_length_le (by omega)]at hb;refine wk ?_;rw[rX hb];exact⟨.d rfl (.inl rfl),trivial⟩
theorem DR(xs:List Tm)(p:Tm→Bool)(u:Value)(hlen:xs.length≤9223372036854775807):FnK Tryz.prog 74 (fun w=>∀ x∈xs,FV Tryz.prog w u [.g (dw x)] (.bool (p x))) [.d (.l (xs.map dw)),.d (.v u)] [.d (.v (.bool (xs.any p)))]:=by
 rw[←ur];refine FnK.of Tryz.func74 rfl (by kernel_rfl) Tryz.ntmps74 Tryz.results74 rfl fun w0 S0 hK0=>?_;refine wk ?_;((try (first | intro K ms hms hK | intro K hK));(first | apply Ch.go | apply Ch.ah);exact rfl;exact rfl;exact Loc.lI (R:=[]) (El xs p u hlen) rfl ⟨.inl rfl,.inl rfl,trivial⟩ (fun _ _ _ _ _ hi x hx=>(hK0 x hx).u6 (hi.u6 rfl)));refine s1 (fun h1=>?_) (fun h1=>?_)
 ·refine wk ?_;rw[decide_eq_true h1];exact⟨.d rfl (.inl rfl),trivial⟩
 ·refine wk ?_;rw[decide_eq_false h1];exact⟨.d rfl (.inl rfl),trivial⟩
theorem B5(i o:Int)(hi:1≤i∧i≤32)(ho:1≤o∧o≤32)(t:Tm):FnB2 Tryz.prog 75 [.g (dw t)] [.v (.int .i64 i)] [.v (.int .i64 o)] (.bool (decide (t.1<0)||decide (i+o≤t.1))):=by
 refine FnB2.of Tryz.func75 rfl (by kernel_rfl) Tryz.ntmps75 Tryz.results75 rfl fun w0 S0=>?_;obtain⟨v,r⟩:=t;have hv:((v,r):Tm).1=v:=rfl;by_cases h1:v<0
 ·rw[show decide (((v,r):Tm).1<0)=true from decide_eq_true h1,Bool.true_or];refine wk ?_;exact⟨.d rfl (.inl rfl),trivial⟩
 rw[show decide (((v,r):Tm).1<0)=false from decide_eq_false h1,Bool.false_or];by_cases h2:i+o≤v
 ·rw[show decide (i+o≤((v,r):Tm).1)=true from decide_eq_true h2];refine wk ?_;exact⟨.d rfl (.inl rfl),trivial⟩
 ·rw[show decide (i+o≤((v,r):Tm).1)=false from decide_eq_false h2];refine wk ?_;exact⟨.d rfl (.inl rfl),trivial⟩
def kh(m:Int)(a:At):Bool:=!(decide (a.op<1)||decide (3<a.op))&&a.e.t.all fun t=>!(decide (t.1<0)||decide (m≤t.1))
def CJ(b:List (Rat×Rat)):Bool:=b.all fun s=>!decide (0<cL (s.1-s.2))
def dJ(e:Int)(box:List (Rat×Rat))(ats:List At)(i o:Int):Int:=
 if 200<ats.length∨e=2 then 2
 else if e≠0∨i<1∨o<1∨32<i∨32<o∨(box.length:Int)≠i then 4
 else if CJ box=true then if ats.all (kh (i+o))=true then 0 else 4 else 4
def ss(p:PP):Prop:=p.ats.length≤9223372036854775807∧∀ a∈p.ats,a.e.t.length≤9223372036854775807
theorem Bq{k:Nat}(p:PP)(i o:Int)(hp:lJ k p)(hk:k≤25000000)(hlp:ss p)(hok:dG p.bad)(hi: -9223372036854775808≤i∧i≤9223372036854775807):Fn Tryz.prog 33 [.g (dN p),.d (.v (.int .i64 i)),.d (.v (.int .i64 o))] [.d (.v (.int .i64 (dJ (jO p.bad p.ats.length) p.box p.ats i o)))]:=by
 have _:=hi;have hce:=Bx p.bad hok p.ats.length;obtain⟨hb,hbl⟩:=hp;obtain⟨hal,hat⟩:=hlp;obtain⟨bx,ats,bad⟩:=p;dsimp only at hb hbl hal hat hce;obtain⟨R,hR⟩:∃ R,dJ (jO bad ats.length) bx ats i o=R:=⟨_,rfl⟩
 rw[show dN ⟨bx,ats,bad⟩=[.l (bx.map jK),.l (ats.map iK)]++aM bad from rfl,show dJ (jO (⟨bx,ats,bad⟩:PP).bad (⟨bx,ats,bad⟩:PP).ats.length) (⟨bx,ats,bad⟩:PP).box (⟨bx,ats,bad⟩:PP).ats i o=R from hR];unfold dJ at hR;generalize jO bad ats.length=e at hce hR;by_cases h1:200<ats.length
 ·rw[if_pos (.inl h1)]at hR;subst hR;refine Fn.of Tryz.func33 rfl (by kernel_rfl) Tryz.ntmps33 Tryz.results33 rfl fun w0 S0=>?_;refine wk ?_;refine c1 hce ?_;refine wk ?_;exact⟨.d rfl (.inl rfl),trivial⟩
 by_cases h2:e=2
 ·rw[if_pos (.inr h2)]at hR;subst hR;refine Fn.of Tryz.func33 rfl (by kernel_rfl) Tryz.ntmps33 Tryz.results33 rfl fun w0 S0=>?_;refine wk ?_;refine c1 hce ?_;refine wk ?_;exact⟨.d rfl (.inl rfl),trivial⟩
 rw[if_neg (fun h=>h.elim h1 h2)]at hR;by_cases k0:e≠0
 ·rw[if_pos (.inl k0)]at hR;subst hR;refine Fn.of Tryz.func33 rfl (by kernel_rfl) Tryz.ntmps33 Tryz.results33 rfl fun w0 S0=>?_;refine wk ?_;refine c1 hce ?_;refine wk ?_;exact⟨.d rfl (.inl rfl),trivial⟩
 by_cases k1:i<1
 ·rw[if_pos (.inr (.inl k1))]at hR;subst hR;refine Fn.of Tryz.func33 rfl (by kernel_rfl) Tryz.ntmps33 Tryz.results33 rfl fun w0 S0=>?_;refine wk ?_;refine c1 hce ?_;refine wk ?_;exact⟨.d rfl (.inl rfl),trivial⟩
 by_cases k2:o<1
 ·rw[if_pos (.inr (.inr (.inl k2)))]at hR;subst hR;refine Fn.of Tryz.func33 rfl (by kernel_rfl) Tryz.ntmps33 Tryz.results33 rfl fun w0 S0=>?_;refine wk ?_;refine c1 hce ?_;refine wk ?_;exact⟨.d rfl (.inl rfl),trivial⟩
 by_cases k3:32<i
 ·rw[if_pos (.inr (.inr (.inr (.inl k3))))]at hR;subst hR;refine Fn.of Tryz.func33 rfl (by kernel_rfl) Tryz.ntmps33 Tryz.results33 rfl fun w0 S0=>?_;refine wk ?_;refine c1 hce ?_;refine wk ?_;exact⟨.d rfl (.inl rfl),trivial⟩
 by_cases k4:32<o
 ·rw[if_pos (.inr (.inr (.inr (.inr (.inl k4)))))]at hR;subst hR;refine Fn.of Tryz.func33 rfl (by kernel_rfl) Tryz.ntmps33 Tryz.results33 rfl fun w0 S0=>?_;refine wk ?_;refine c1 hce ?_;refine wk ?_;exact⟨.d rfl (.inl rfl),trivial⟩
 by_cases k5:(bx.length:Int)≠i
 ·rw[if_pos (.inr (.inr (.inr (.inr (.inr (k5))))))]at hR;subst hR;refine Fn.of Tryz.func33 rfl (by kernel_rfl) Tryz.ntmps33 Tryz.results33 rfl fun w0 S0=>?_;refine wk ?_;refine c1 hce ?_;refine wk ?_;exact⟨.d rfl (.inl rfl),trivial⟩
 rw[if_neg (by rintro (h | h | h | h | h | h);exact k0 h;exact k1 h;exact k2 h;exact k3 h;exact k4 h;exact k5 h)]at hR;unfold CJ at hR;refine Fn.of Tryz.func33 rfl (by kernel_rfl) Tryz.ntmps33 Tryz.results33 rfl fun w0 S0=>?_;refine wk ?_;refine c1 hce ?_;refine wk ?_;refine AC.loop (X:=Nat) (fun j=>⟨[(1,.d (.v (.int .i64 i))),(2,.d (.v (.int .i64 o))),(3,.p 3 0),(54,.d (.l (bx.map jK))),(55,.d (.v (.int .i64 (bx.length:Int)))),(56,.d (.v (.int .i64 (j:Int))))],[(3,.box 92 (([D.l (bx.map jK),D.l (ats.map iK)]++aM bad).map .d))]⟩) (fun j=>j≤bx.length∧(if ((bx.drop j).all fun s=>!decide (0<cL (s.1-s.2)))=true then if ats.all (kh (i+o))=true then(0:Int)else 4 else 4)=R) (fun j=>bx.length-j) 0 ⟨Nat.zero_le _,hR⟩ ⟨rfl,rfl,rfl,rfl,rfl,rfl,trivial⟩ ⟨rfl,trivial⟩ ?_;intro j ⟨hj,hgo⟩;dsimp only at hj hgo ⊢;refine wk ?_;refine s1 (fun g1=>?_) (fun g1=>?_)
 ·have hj1:j<bx.length:=by omega
  have hs:bx[j]?=some bx[j]:=List.getElem?_eq_getElem hj1;rw[List.drop_eq_getElem_cons hj1,List.all_cons]at hgo;obtain⟨b1,b2⟩:=hb _ (List.getElem_mem hj1);generalize bx[j]=s at hs hgo b1 b2;obtain⟨lo,hi⟩:=s;dsimp only at hgo b1 b2;have c1':=zQ b1 b2 (by omega);generalize cL (lo-hi)=u at c1' hgo;by_cases h3:0<u
  ·rw[decide_eq_true h3,Bool.not_true,Bool.false_and,if_neg (by decide)]at hgo;subst hgo;refine wk ?_;refine c1 c1' ?_;refine wk ?_;exact⟨.d rfl (.inl rfl),trivial⟩
  ·rw[decide_eq_false h3,Bool.not_false,Bool.true_and]at hgo;refine wk ?_;refine c1 c1' ?_;refine wk ?_;exact⟨j+1,⟨hj1,hgo⟩,by omega,⟨rfl,rfl,rfl,rfl,rfl,rfl,trivial⟩,⟨rfl,trivial⟩⟩
 rw[List.drop_of_length_le (by omega),List.all_nil,if_pos rfl]at hgo;refine wk ?_;refine AC.loop (X:=Nat) (fun j=>⟨[(1,.d (.v (.int .i64 i))),(2,.d (.v (.int .i64 o))),(68,.d (.l (ats.map iK))),(69,.d (.v (.int .i64 (ats.length:Int)))),(70,.d (.v (.int .i64 (j:Int))))],[]⟩) (fun j=>j≤ats.length∧(if (ats.drop j).all (kh (i+o))=true then(0:Int)else 4)=R) (fun j=>ats.length-j) 0 ⟨Nat.zero_le _,hgo⟩ ⟨rfl,rfl,rfl,rfl,rfl,trivial⟩ trivial ?_;clear hgo;intro j2 ⟨hj2,hgo⟩;dsimp only at hj2 hgo ⊢;refine wk ?_;refine s1 (fun g2=>?_) (fun g2=>?_)
 rotate_left
 ·rw[List.drop_of_length_le (by omega),List.all_nil,if_pos rfl]at hgo;subst hgo;refine wk ?_;exact⟨.d rfl (.inl rfl),trivial⟩
 have hj1:j2<ats.length:=by omega
 have hs:ats[j2]?=some ats[j2]:=List.getElem?_eq_getElem hj1;rw[List.drop_eq_getElem_cons hj1,List.all_cons]at hgo;have htl:=hat _ (List.getElem_mem hj1);generalize ats[j2]=a at hs hgo htl;obtain⟨⟨ts,cc⟩,op⟩:=a;have e1:kh (i+o) ⟨⟨ts,cc⟩,op⟩=(!(decide (op<1)||decide (3<op))&&ts.all fun t=>!(decide (t.1<0)||decide (i+o≤t.1))):=rfl;rw[e1]at hgo;dsimp only at htl;have hop:(⟨⟨ts,cc⟩,op⟩:At).op=op:=rfl;by_cases q1:op<1
 ·rw[decide_eq_true q1,Bool.true_or,Bool.not_true,Bool.false_and,Bool.false_and,if_neg (by decide)]at hgo;subst hgo;refine wk ?_;exact⟨.d rfl (.inl rfl),trivial⟩
 by_cases q2:3<op
 ·rw[decide_eq_true q2,Bool.or_true,Bool.not_true,Bool.false_and,Bool.false_and,if_neg (by decide)]at hgo;subst hgo;refine wk ?_;exact⟨.d rfl (.inl rfl),trivial⟩
 rw[decide_eq_false q1,decide_eq_false q2,Bool.or_false,Bool.not_false,Bool.true_and]at hgo;refine wk ?_;refine AC.loop (X:=Nat) (fun q=>⟨[(1,.d (.v (.int .i64 i))),(2,.d (.v (.int .i64 o))),(68,.d (.l (ats.map iK))),(69,.d (.v (.int .i64 (ats.length:Int)))),(70,.d (.v (.int .i64 (j2:Int)))),(84,.d (.l (ts.map bO))),(85,.d (.v (.int .i64 (ts.length:Int)))),(86,.d (.v (.int .i64 (q:Int))))],[]⟩) (fun q=>q≤ts.length∧(if (((ts.drop q).all fun t=>!(decide (t.1<0)||decide (i+o≤t.1)))&&(ats.drop (j2+1)).all (kh (i+o)))=true then(0:Int)else 4)=R) (fun q=>ts.length-q) 0 ⟨Nat.zero_le _,hgo⟩ ⟨rfl,rfl,rfl,rfl,rfl,rfl,rfl,rfl,trivial⟩ trivial ?_;clear hgo;intro q ⟨hq,hgo⟩;dsimp only at hq hgo ⊢;refine wk ?_;refine s1 (fun g3=>?_) (fun g3=>?_)
 ·have hq1:q<ts.length:=by omega
  have ht:ts[q]?=some ts[q]:=List.getElem?_eq_getElem hq1;rw[List.drop_eq_getElem_cons hq1,List.all_cons]at hgo;generalize ts[q]=t at ht hgo;obtain⟨v,r⟩:=t;dsimp only at hgo;have hv:((v,r):Tm).1=v:=rfl;by_cases q3:v<0
  ·rw[decide_eq_true q3,Bool.true_or,Bool.not_true,Bool.false_and,Bool.false_and,if_neg (by decide)]at hgo;subst hgo;refine wk ?_;exact⟨.d rfl (.inl rfl),trivial⟩
  by_cases q4:i+o≤v
  ·rw[decide_eq_true q4,Bool.or_true,Bool.not_true,Bool.false_and,Bool.false_and,if_neg (by decide)]at hgo;subst hgo;refine wk ?_;exact⟨.d rfl (.inl rfl),trivial⟩
  rw[decide_eq_false q3,decide_eq_false q4,Bool.or_false,Bool.not_false,Bool.true_and]at hgo;refine wk ?_;exact⟨q+1,⟨hq1,hgo⟩,by omega,⟨rfl,rfl,rfl,rfl,rfl,rfl,rfl,rfl,trivial⟩,trivial⟩
 ·rw[List.drop_of_length_le (by omega),List.all_nil,Bool.true_and]at hgo;refine wk ?_;exact⟨j2+1,⟨hj1,hgo⟩,by omega,⟨rfl,rfl,rfl,rfl,rfl,trivial⟩,trivial⟩
theorem nI{k:Nat}(p:PP)(i o:Int)(hp:lJ k p)(hk:k≤25000000)(hlp:ss p)(hok:dG p.bad):Fn Tryz.prog 31 [.g (fi p),.d (.v (.int .i64 i)),.d (.v (.int .i64 o))] [.d (.v (.int .i64 (dJ (dD p.bad p.ats.length) p.box p.ats i o)))]:=by
 have hce:=tf p.bad hok p.ats.length;obtain⟨hb,hbl⟩:=hp;obtain⟨hal,hat⟩:=hlp;obtain⟨bx,ats,bad⟩:=p;dsimp only at hb hbl hal hat hce;obtain⟨R,hR⟩:∃ R,dJ (dD bad ats.length) bx ats i o=R:=⟨_,rfl⟩
 rw[show fi ⟨bx,ats,bad⟩=[.l (bx.map fe),.l (ats.map fG)]++aM bad from rfl,show dJ (dD (⟨bx,ats,bad⟩:PP).bad (⟨bx,ats,bad⟩:PP).ats.length) (⟨bx,ats,bad⟩:PP).box (⟨bx,ats,bad⟩:PP).ats i o=R from hR];unfold dJ at hR;generalize dD bad ats.length=e at hce hR;by_cases h1:200<ats.length
 ·rw[if_pos (.inl h1)]at hR;subst hR;refine Fn.of Tryz.func31 rfl (by kernel_rfl) Tryz.ntmps31 Tryz.results31 rfl fun w0 S0=>?_;refine wq ?_;(first | intro K ms hms hK | intro K hK | skip);refine Ch.fO 4 4 [.v (.int .i64 i)] rfl rfl fun b4=>?_;refine Ch.fO 5 5 [.v (.int .i64 o)] rfl rfl fun b5=>?_;refine c1 hce ?_;refine wq ?_;exact⟨.d rfl (.inl rfl),trivial⟩
 by_cases h2:e=2
 ·rw[if_pos (.inr h2)]at hR;subst hR;refine Fn.of Tryz.func31 rfl (by kernel_rfl) Tryz.ntmps31 Tryz.results31 rfl fun w0 S0=>?_;refine wq ?_;(first | intro K ms hms hK | intro K hK | skip);refine Ch.fO 4 4 [.v (.int .i64 i)] rfl rfl fun b4=>?_;refine Ch.fO 5 5 [.v (.int .i64 o)] rfl rfl fun b5=>?_;refine c1 hce ?_;refine wq ?_;exact⟨.d rfl (.inl rfl),trivial⟩
 rw[if_neg (fun h=>h.elim h1 h2)]at hR;by_cases k0:e≠0
 ·rw[if_pos (.inl k0)]at hR;subst hR;refine Fn.of Tryz.func31 rfl (by kernel_rfl) Tryz.ntmps31 Tryz.results31 rfl fun w0 S0=>?_;refine wq ?_;(first | intro K ms hms hK | intro K hK | skip);refine Ch.fO 4 4 [.v (.int .i64 i)] rfl rfl fun b4=>?_;refine Ch.fO 5 5 [.v (.int .i64 o)] rfl rfl fun b5=>?_;refine c1 hce ?_;refine wq ?_;exact⟨.d rfl (.inl rfl),trivial⟩
 by_cases k1:i<1
 ·rw[if_pos (.inr (.inl k1))]at hR;subst hR;refine Fn.of Tryz.func31 rfl (by kernel_rfl) Tryz.ntmps31 Tryz.results31 rfl fun w0 S0=>?_;refine wq ?_;(first | intro K ms hms hK | intro K hK | skip);refine Ch.fO 4 4 [.v (.int .i64 i)] rfl rfl fun b4=>?_;refine Ch.fO 5 5 [.v (.int .i64 o)] rfl rfl fun b5=>?_;refine c1 hce ?_;refine wq ?_;exact⟨.d rfl (.inl rfl),trivial⟩
 by_cases k2:o<1
 ·rw[if_pos (.inr (.inr (.inl k2)))]at hR;subst hR;refine Fn.of Tryz.func31 rfl (by kernel_rfl) Tryz.ntmps31 Tryz.results31 rfl fun w0 S0=>?_;refine wq ?_;(first | intro K ms hms hK | intro K hK | skip);refine Ch.fO 4 4 [.v (.int .i64 i)] rfl rfl fun b4=>?_;refine Ch.fO 5 5 [.v (.int .i64 o)] rfl rfl fun b5=>?_;refine c1 hce ?_;refine wq ?_;exact⟨.d rfl (.inl rfl),trivial⟩
 by_cases k3:32<i
 ·rw[if_pos (.inr (.inr (.inr (.inl k3))))]at hR;subst hR;refine Fn.of Tryz.func31 rfl (by kernel_rfl) Tryz.ntmps31 Tryz.results31 rfl fun w0 S0=>?_;refine wq ?_;(first | intro K ms hms hK | intro K hK | skip);refine Ch.fO 4 4 [.v (.int .i64 i)] rfl rfl fun b4=>?_;refine Ch.fO 5 5 [.v (.int .i64 o)] rfl rfl fun b5=>?_;refine c1 hce ?_;refine wq ?_;exact⟨.d rfl (.inl rfl),trivial⟩
 by_cases k4:32<o
 ·rw[if_pos (.inr (.inr (.inr (.inr (.inl k4)))))]at hR;subst hR;refine Fn.of Tryz.func31 rfl (by kernel_rfl) Tryz.ntmps31 Tryz.results31 rfl fun w0 S0=>?_;refine wq ?_;(first | intro K ms hms hK | intro K hK | skip);refine Ch.fO 4 4 [.v (.int .i64 i)] rfl rfl fun b4=>?_;refine Ch.fO 5 5 [.v (.int .i64 o)] rfl rfl fun b5=>?_;refine c1 hce ?_;refine wq ?_;exact⟨.d rfl (.inl rfl),trivial⟩
 by_cases k5:(bx.length:Int)≠i
 ·rw[if_pos (.inr (.inr (.inr (.inr (.inr (k5))))))]at hR;subst hR;refine Fn.of Tryz.func31 rfl (by kernel_rfl) Tryz.ntmps31 Tryz.results31 rfl fun w0 S0=>?_;refine wq ?_;(first | intro K ms hms hK | intro K hK | skip);refine Ch.fO 4 4 [.v (.int .i64 i)] rfl rfl fun b4=>?_;refine Ch.fO 5 5 [.v (.int .i64 o)] rfl rfl fun b5=>?_;refine c1 hce ?_;refine wq ?_;exact⟨.d rfl (.inl rfl),trivial⟩
 rw[if_neg (by rintro (h | h | h | h | h | h);exact k0 h;exact k1 h;exact k2 h;exact k3 h;exact k4 h;exact k5 h)]at hR;unfold CJ at hR;refine Fn.of Tryz.func31 rfl (by kernel_rfl) Tryz.ntmps31 Tryz.results31 rfl fun w0 S0=>?_;refine wq ?_;(first | intro K ms hms hK | intro K hK | skip);refine Ch.fO 4 4 [.v (.int .i64 i)] rfl rfl fun b4=>?_;refine Ch.fO 5 5 [.v (.int .i64 o)] rfl rfl fun b5=>?_;refine c1 hce ?_;refine wq ?_;refine AC.loop (X:=Nat) (fun j=>⟨[(3,.p 3 0),(4,.d (.v (aT b4 0))),(5,.d (.v (aT b5 0))),(52,.d (.l (bx.map fe))),(53,.d (.v (.int .i64 (bx.length:Int)))),(54,.d (.v (.int .i64 (j:Int))))],[(3,.box 83 (([D.l (bx.map fe),D.l (ats.map fG)]++aM bad).map .d)),(4,bL b4 3 [.v (.int .i64 i)]),(5,bL b5 3 [.v (.int .i64 o)])]⟩) (fun j=>j≤bx.length∧(if ((bx.drop j).all fun s=>!decide (0<cL (s.1-s.2)))=true then if ats.all (kh (i+o))=true then(0:Int)else 4 else 4)=R) (fun j=>bx.length-j) 0 ⟨Nat.zero_le _,hR⟩ ⟨rfl,rfl,rfl,rfl,rfl,rfl,trivial⟩ ⟨rfl,rfl,rfl,trivial⟩ ?_;intro j ⟨hj,hgo⟩;dsimp only at hj hgo ⊢;refine wq ?_;refine s1 (fun g1=>?_) (fun g1=>?_)
 ·have hj1:j<bx.length:=by omega
  have hs:bx[j]?=some bx[j]:=List.getElem?_eq_getElem hj1;rw[List.drop_eq_getElem_cons hj1,List.all_cons]at hgo;obtain⟨b1,b2⟩:=hb _ (List.getElem_mem hj1);generalize bx[j]=s at hs hgo b1 b2;obtain⟨lo,hi⟩:=s;dsimp only at hgo b1 b2;have c1':=tQ b1 b2 (by omega);generalize cL (lo-hi)=u at c1' hgo;by_cases h3:0<u
  ·rw[decide_eq_true h3,Bool.not_true,Bool.false_and,if_neg (by decide)]at hgo;subst hgo;refine wq ?_;refine c1 c1' ?_;refine wq ?_;exact⟨.d rfl (.inl rfl),trivial⟩
  ·rw[decide_eq_false h3,Bool.not_false,Bool.true_and]at hgo;refine wq ?_;refine c1 c1' ?_;refine wq ?_;exact⟨j+1,⟨hj1,hgo⟩,by omega,⟨rfl,rfl,rfl,rfl,rfl,rfl,trivial⟩,⟨rfl,rfl,rfl,trivial⟩⟩
 rw[List.drop_of_length_le (by omega),List.all_nil,if_pos rfl]at hgo;refine wq ?_;refine AC.loop (X:=Nat) (fun j=>⟨[(4,.d (.v (aT b4 0))),(5,.d (.v (aT b5 0))),(66,.d (.l (ats.map fG))),(67,.d (.v (.int .i64 (ats.length:Int)))),(68,.d (.v (.int .i64 (j:Int))))],[(4,bL b4 3 [.v (.int .i64 i)]),(5,bL b5 3 [.v (.int .i64 o)])]⟩) (fun j=>j≤ats.length∧(if (ats.drop j).all (kh (i+o))=true then(0:Int)else 4)=R) (fun j=>ats.length-j) 0 ⟨Nat.zero_le _,hgo⟩ ⟨rfl,rfl,rfl,rfl,rfl,trivial⟩ ⟨rfl,rfl,trivial⟩ ?_;clear hgo;intro j2 ⟨hj2,hgo⟩;dsimp only at hj2 hgo ⊢;refine wq ?_;refine s1 (fun g2=>?_) (fun g2=>?_)
 rotate_left
 ·rw[List.drop_of_length_le (by omega),List.all_nil,if_pos rfl]at hgo;subst hgo;refine wq ?_;exact⟨.d rfl (.inl rfl),trivial⟩
 have hj1:j2<ats.length:=by omega
 have hs:ats[j2]?=some ats[j2]:=List.getElem?_eq_getElem hj1;rw[List.drop_eq_getElem_cons hj1,List.all_cons]at hgo;have htl:=hat _ (List.getElem_mem hj1);generalize ats[j2]=a at hs hgo htl;by_cases q1:je a.op
 rotate_left
 ·have e1:kh (i+o) a=false:=by
   unfold kh;unfold je at q1;by_cases z:a.op<1
   ·rw[decide_eq_true z];rfl
   ·rw[decide_eq_false z,decide_eq_true (p:=3<a.op) (by omega)];rfl
  rw[e1,Bool.false_and,if_neg (by decide)]at hgo;subst hgo;refine wq ?_;refine c1 (BC a q1) ?_;refine wq ?_;exact⟨.d rfl (.inl rfl),trivial⟩
 have e1:kh (i+o) a=!(a.e.t.any fun t=>decide (t.1<0)||decide (i+o≤t.1)):=by
  unfold kh;unfold je at q1;rw[decide_eq_false (p:=a.op<1) (by omega),decide_eq_false (p:=3<a.op) (by omega),Bool.or_false,Bool.not_false,Bool.true_and,List.not_any_eq_all_not]
 rw[e1]at hgo;refine wq ?_;refine c1 (xx a q1) ?_;refine wq ?_;((try (first | intro K ms hms hK | intro K hK));(first | apply Ch.go | apply Ch.ah);exact rfl;exact rfl;exact Loc.EG rfl rfl rfl);have hI:=DR a.e.t (fun t=>decide (t.1<0)||decide (i+o≤t.1)) (Value.func (.func 75) #[] #[Value.pointer (some ⟨b4,0,none⟩),Value.pointer (some ⟨b5,0,none⟩)]) htl;((try (first | intro K ms hms hK | intro K hK));(first | apply Ch.go | apply Ch.ah);exact rfl;exact rfl;exact Loc.lI (R:=[4,5]) hI rfl ⟨.inl rfl,.inl rfl,trivial⟩ (fun _ _ _ _ hR2 hi x hx=>(B5 i o (by omega) (by omega) x).here hi (id:=4) (id2:=5) (by rw[hR2 4 (by simp)];rfl) (by rw[hR2 5 (by simp)];rfl)));generalize (a.e.t.any fun t=>decide (t.1<0)||decide (i+o≤t.1))=y at hgo;cases y with
 | true=>
   rw[Bool.not_true,Bool.false_and,if_neg (by decide)]at hgo;subst hgo;refine wq ?_;exact⟨.d rfl (.inl rfl),trivial⟩
 | false=>
   rw[Bool.not_false,Bool.true_and]at hgo;refine wq ?_;exact⟨j2+1,⟨hj1,hgo⟩,by omega,⟨rfl,rfl,rfl,rfl,rfl,trivial⟩,⟨rfl,rfl,trivial⟩⟩
