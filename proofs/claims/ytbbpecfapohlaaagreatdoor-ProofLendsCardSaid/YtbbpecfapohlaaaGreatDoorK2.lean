import Derived.WalkKit
import Derived.IntWalk
import Derived.Deep.AppendSrc
import Derived.Great.BuildSlice
import Derived.Test.YtbbpecfapohlaaaGreatDoorK1
namespace Go.Proofs.YtbbpecfapohlaaaGreatDoor
open Go.RowKit
structure One{α:Type}(R:Rp α)(enc:α→Value)(ok:α→Prop):Prop where
 k:R.k=1
 rel:∀ {S w cs a},R.rel S w cs a↔cs=[enc a]∧ok a
def Rp.u32:Rp Nat where
 k:=1
 rel _ _ cs c:=cs=[.int .u32 (c:Int)]∧c<4294967296
 len h:=by rw[h.1];rfl
 one h:=by rw[h.1];simp[Value.oneCell']
 keep h _:=h
def encU(c:Nat):Value:= .int .u32 (c:Int)
def encB(b:Bool):Value:= .bool b
theorem oneU:One Rp.u32 encU (· <4294967296):=⟨rfl,Iff.rfl⟩
section
variable {α:Type}{R:Rp α}{enc:α→Value}{ok:α→Prop}{S0:Nat→Prop}{n0:Nat}{e:TypeId}{w w':World}{v:Value}{xs:List α}
theorem One.row(O:One R enc ok):OwnL R S0 n0 e w v xs↔w.ownsRow n0 e 1 v xs.length (xs.map enc)∧∀ x∈xs,ok x:=by
 have hfl:∀ ys:List α,(ys.map fun c=>[enc c]).flatten=ys.map enc:=by
  intro ys
  induction ys with
  | nil=>rfl
  | cons c r ih=>simpa using ih
 constructor
 ·rintro ⟨css,hl,hr,hown⟩;have e1:css=xs.map fun c=>[enc c]:=by
   refine List.ext_getElem (by simp[hl]) fun i h1 h2=>?_;rw[(O.rel.1 (hr i (by simpa using h2) h1)).1];simp
  rw[e1,hfl,O.k]at hown;refine⟨hown,fun x hx=>?_⟩;obtain⟨i,hi,rfl⟩:=List.getElem_of_mem hx;exact(O.rel.1 (hr i hi (by omega))).2
 ·rintro ⟨hown,hok⟩;refine⟨xs.map fun c=>[enc c],by simp,fun i h1 h2=>O.rel.2 ⟨by simp,hok _ (List.getElem_mem h1)⟩,?_⟩;rw[hfl,O.k];exact hown
theorem One.cell(O:One R enc ok){g cap n:Nat}(h:OwnL R S0 n0 e w (.slice (some ⟨g,0,none⟩) n cap) xs)(i:Nat)(hi:i<xs.length):
  w.cell? ⟨g,i,none⟩=some (enc xs[i])∧w.frozen? ⟨g,i,none⟩=false:=by
 have hrow:=(O.row.1 h).1;have hn:n=xs.length:=by
  obtain⟨a,c,e1,_⟩:=h.shape;simp at e1;exact e1.2.1
 subst hn;refine⟨?_,hrow.frozenAt i⟩;rw[hrow.cellAt i (by omega),List.getElem?_map,List.getElem?_eq_getElem hi];rfl
theorem One.okAll(O:One R enc ok)(h:OwnL R S0 n0 e w v xs):∀ x∈xs,ok x:=(O.row.1 h).2
theorem One.store(O:One R enc ok){g cap n:Nat}(h:OwnL R S0 n0 e w (.slice (some ⟨g,0,none⟩) n cap) xs)(i:Nat)(y:α)(hy:ok y):
  OwnL R S0 n0 e (w.setCell ⟨g,i,none⟩ (enc y)) (.slice (some ⟨g,0,none⟩) n cap) (xs.set i y)∧Upd w (w.setCell ⟨g,i,none⟩ (enc y)) (.slice (some ⟨g,0,none⟩) n cap) (.slice (some ⟨g,0,none⟩) n cap):=by
 have hn:n=xs.length:=by
  obtain⟨a,c,e1,_⟩:=h.shape;simp at e1;exact e1.2.1
 obtain⟨hrow,hok⟩:=O.row.1 h;rw[←hn]at hrow;obtain⟨h1,h2⟩:=hrow.stored i (enc y);refine⟨O.row.2 ⟨?_,fun x hx=>?_⟩,⟨h2.os,h2.tape,h2.output,h2.size,fun k hk hne=>h2.block k hk (fun e=>hne e.symm),fun g hg=> .inl hg⟩⟩
 ·rw[List.length_set,←hn,List.map_set];exact h1
 ·rcases List.mem_or_eq_of_mem_set hx with h3 | h3
  ·exact hok x h3
  ·rw[h3];exact hy
theorem One.get(O:One R enc ok){S:Nat→Prop}{a:Option Addr}{n c:Nat}(h:(Rp.slice R).rel S w [.slice a n c] xs)(i:Nat)(hi:i<xs.length):
  ∃b o,a=some ⟨b,o,none⟩∧S b∧w.cell? ⟨b,o+i,none⟩=some (enc xs[i])∧ok xs[i]:=by
 obtain⟨a',c',e1,h1,h2,h3⟩:=h;injection e1 with e1;injection e1 with e1 e2 e3;subst e1;obtain⟨b,o,ha,hb,hel⟩:=h3 (by omega);obtain⟨es,hr,hc⟩:=hel i hi;obtain⟨rfl,hok⟩:=O.rel.1 hr;refine⟨b,o,ha,hb,?_,hok⟩;have:=hc 0 (by simp);rw[O.k,Nat.mul_one,Nat.add_zero]at this;simpa using this
theorem One.all(O:One R enc ok){S:Nat→Prop}{a:Option Addr}{n c:Nat}(h:(Rp.slice R).rel S w [.slice a n c] xs):∀ x∈xs,ok x:=by
 intro x hx;obtain⟨i,hi,rfl⟩:=List.getElem_of_mem hx;obtain⟨_,_,_,_,_,h⟩:=O.get h i hi;exact h
theorem slice_len{S:Nat→Prop}{a:Option Addr}{n c:Nat}(h:(Rp.slice R).rel S w [.slice a n c] xs):n=xs.length∧n≤c∧c≤maxLen:=by
 obtain⟨a',c',e1,h1,h2,h3⟩:=h;injection e1 with e1;injection e1 with e1 e2 e3;subst e2 e3;exact⟨rfl,h1,h2⟩
theorem slice_part{S:Nat→Prop}{b o n c:Nat}(h:(Rp.slice R).rel S w [.slice (some ⟨b,o,none⟩) n c] xs)(i j d:Nat)(hij:i≤j)(hj:j≤n)(hd:j-i≤d)(hd2:d≤maxLen):
  (Rp.slice R).rel S w [.slice (some ⟨b,o+i*R.k,none⟩) (j-i) d] ((xs.take j).drop i):=by
 obtain⟨a',c',e1,h1,h2,h3⟩:=h;injection e1 with e1;injection e1 with e1 e2 e3;subst e1 e2 e3;have hl:((xs.take j).drop i).length=j-i:=by simp;omega
 refine⟨_,d,by rw[hl],by omega,hd2,fun hp=>?_⟩;obtain⟨b',o',ha,hb,hel⟩:=h3 (by omega);injection ha with ha;injection ha with ha1 ha2;subst ha1 ha2;refine⟨_,_,rfl,hb,fun q hq=>?_⟩;obtain⟨es,hr,hc⟩:=hel (i+q) (by omega);refine⟨es,?_,fun k hk=>?_⟩
 ·rw[List.getElem_drop,List.getElem_take];exact hr
 ·rw[←hc k hk];congr 2;rw[Nat.add_mul];omega
end
structure ElemZ(P:Program)(t e:TypeId)(z:Value)(size bytes:Nat):Prop where
 under:P.underlying t=some (.slice e)
 info:∃ i,P.info? e=some i∧i.zero=some z∧i.size=size∧i.bytes=bytes
theorem ElemZ.of{P:Program}{t e:TypeId}{z:Value}{size bytes:Nat}(h1:P.underlying t=some (.slice e))(h2:(P.info? e).map (fun i=>(i.zero,i.size,i.bytes))=some (some z,size,bytes)):ElemZ P t e z size bytes:=
 ⟨h1,info_parts h2⟩
theorem wp_makeZ{α:Type}{R:Rp α}{enc:α→Value}{ok:α→Prop}(O:One R enc ok){P:Program}{w:World}{ops:Array Oper}{rest:List Oper}{o:Oper}{a:Act}{Q:Exit→Act→World→Prop}(hgd:o.guard=none)(lo co:Operand)(t:TypeId)
  (hop:o.op= .makeSlice t lo co) {e:TypeId} {z:Value} {bytes:Nat} (hE:ElemZ P t e z 1 bytes) (x0:α) (hz:z.cells= #[enc x0]) (hok:ok x0) (S0:Nat→Prop) (n0:Nat)
  (kl kc:IntKind) (L C:Int) (l c:Nat) (hl:a.eval lo= .int kl L) (hc:a.eval co= .int kc C) (hL:L=(l:Int)) (hC:C=(c:Int)) (hlc:l≤c) (hby:c*bytes≤281474976710656) (hmx:c≤9223372036854775807) (hn:n0≤w.heap.size)
  (h:∀ w',OwnL R S0 n0 e w' (.slice (some ⟨w.heap.size,0,none⟩) l c) (List.replicate l x0)→Ext w w'→w'.heap.size=w.heap.size+1→wpList P ops Q rest (a.put o.dst (.slice (some ⟨w.heap.size,0,none⟩) l c)) w'):
  wpList P ops Q (o::rest) a w:=by
 refine wpList_plain hgd fun K hK=>?_;obtain⟨i,hi,hzz,hsize,hbytes⟩:=hE.info;subst hL hC;have hb':(i.bytes:Int)*(c:Int)≤281474976710656:=by
  rw[hbytes];have h:((c*bytes:Nat):Int)≤281474976710656:=by omega
  rw[Int.natCast_mul,Int.mul_comm]at h;exact h
 have hr:=run_make (P:=P) w t e i z hE.under hi hzz kl kc l c (by omega) (by omega) hb' (by omega);simp only[Int.toNat_natCast]at hr;rw[hsize,Nat.mul_one]at hr;unfold Oper.wp;simp[execOp,hop,hl,hc,hr,Result.andThen];refine hK _ _ (h _ (O.row.2 ⟨⟨by simp,.inr ⟨w.heap.size,c,madeCells z.cells c,by simp,hn,heap_alloc_new w _,by simpa using hlc,by unfold maxLen;omega,by rw[size_madeCells,Nat.mul_one],?_⟩⟩,fun x hx=>?_⟩) ((Below.refl _ _).al _) (by simp))
 ·rw[hz];apply List.ext_getElem
  ·simp[size_madeCells];omega
  ·intro j h1 h2;simp[madeCells,Nat.mod_one]
 ·rw[(List.mem_replicate.1 hx).2];exact hok
theorem wp_make0{α:Type}{R:Rp α}{P:Program}{w:World}{ops:Array Oper}{rest:List Oper}{o:Oper}{a:Act}{Q:Exit→Act→World→Prop}(hgd:o.guard=none)(lo co:Operand)(t:TypeId)
  (hop:o.op= .makeSlice t lo co) {e:TypeId} {bytes:Nat} (hE:Elem P t e R.k bytes) (S0:Nat→Prop) (n0:Nat)
  (kl kc:IntKind) (C:Int) (c:Nat) (hl:a.eval lo= .int kl 0) (hc:a.eval co= .int kc C) (hC:C=(c:Int)) (hby:c*bytes≤281474976710656) (hmx:c≤9223372036854775807) (hn:n0≤w.heap.size)
  (h:∀ w',OwnL R S0 n0 e w' (.slice (some ⟨w.heap.size,0,none⟩) 0 c) []→Ext w w'→w'.heap.size=w.heap.size+1→wpList P ops Q rest (a.put o.dst (.slice (some ⟨w.heap.size,0,none⟩) 0 c)) w'):
  wpList P ops Q (o::rest) a w:=by
 refine wpList_plain hgd fun K hK=>?_;obtain⟨i,z,hi,hzz,hsize,hbytes,_⟩:=hE.info;subst hC;have hb':(i.bytes:Int)*(c:Int)≤281474976710656:=by
  rw[hbytes];have h:((c*bytes:Nat):Int)≤281474976710656:=by omega
  rw[Int.natCast_mul,Int.mul_comm]at h;exact h
 have hr:=run_make (P:=P) w t e i z hE.under hi hzz kl kc 0 c (by omega) (by omega) hb' (by omega);simp only[Int.toNat_natCast,Int.toNat_zero]at hr;unfold Oper.wp;simp[execOp,hop,hl,hc,hr,Result.andThen];exact hK _ _ (h _ (OwnL.made R S0 n0 e w (madeCells z.cells (c*i.size)) c hn (by unfold maxLen;omega) (by rw[size_madeCells,hsize])) ((Below.refl _ _).al _) (by simp))
class Sz (P:Program) (T:TypeId) (ag:outParam Bool) (n:outParam Nat):Prop where
 u:∃ d,P.underlying T=some d∧d.isRow=ag
 s:(P.info? T).map (·.size)=some n
class Fl (P:Program) (T:TypeId) (f:Nat) (off:outParam Nat):Prop where
 u:∃ fs fd,P.underlying T=some (.struct fs)∧fs[f]?=some fd∧fd.offset=off∧∃ n,(P.info? fd.type).map (·.size)=some (n+1)
class Sl (P:Program) (T:TypeId) (e:outParam TypeId) (k bytes:outParam Nat):Prop where
 e:Elem P T e k bytes
class It (P:Program) (T:TypeId) (k:outParam IntKind):Prop where
 u:P.underlying T=some (.int k)
class Zr (P:Program) (T:TypeId) (zs:outParam (List Value)):Prop where
 z:∃ i z,P.info? T=some i∧i.zero=some z∧z.cells.toList=zs
def flOf(P:Program)(T f:Nat):Option (Nat×Nat):=match P.underlying T with
 | some (.struct fs)=>match fs[f]? with
   | some fd=>(P.info? fd.type).map fun i=>(fd.offset,i.size)
   | none=>none
 | _=>none
theorem Fl.mk'{P:Program}{T f off n:Nat}(h:flOf P T f=some (off,n+1)):Fl P T f off:=by
 unfold flOf at h;split at h
 ·rename_i fs h1;split at h
  ·rename_i fd h2;obtain⟨i,h3,h4⟩:=Option.map_eq_some_iff.1 h;simp only[Prod.mk.injEq]at h4;exact⟨fs,fd,h1,h2,h4.1,n,by rw[h3];simp[h4.2]⟩
  ·cases h
 ·cases h
def szOf(P:Program)(T:Nat):Option (Bool×Nat):=match P.underlying T,P.info? T with
 | some d,some i=>some (d.isRow,i.size)
 | _,_=>none
theorem Sz.mk'{P:Program}{T:Nat}{b:Bool}{n:Nat}(h:szOf P T=some (b,n)):Sz P T b n:=by
 unfold szOf at h;split at h
 ·rename_i d i h1 h2;simp only[Option.some.injEq,Prod.mk.injEq]at h;exact⟨⟨d,h1,h.1⟩,by rw[h2];simp[h.2]⟩
 ·cases h
theorem Zr.mk'{P:Program}{T:Nat}{zs:List Value}(h:(P.info? T).bind (fun i=>i.zero.map fun z=>z.cells.toList)=some zs):Zr P T zs:=by
 obtain⟨i,h1,h2⟩:=Option.bind_eq_some_iff.1 h;obtain⟨z,h3,h4⟩:=Option.map_eq_some_iff.1 h2;exact⟨i,z,h1,h3,h4⟩
section
variable {P:Program}{C:Cx}{ops:Array Oper}{fin:List Inf→Prop}{Q:AS→Prop}{m:Option (List Inf)}{l:List Inf}{o:Oper}{rest:List Oper}{σ:AS}
def gst(ops:Array Oper)(σ:AS)(o:Oper):Option Bool:=match o.guard with
 | none=>some true
 | some (g,b)=>match gslot ops g with
   | some t=>match get? σ.env t with
     | some (.d (.v (.bool c)))=>some (match b,c with | true,true=>true | false,false=>true | _,_=>false)
     | some (.t [])=>some false
     | _=>none
   | none=>none
theorem Chain.run{v:AV}{f:Fx}(hg:gst ops σ o=some true)(h:Do P C o σ v f)(hk:kindB σ f=true)(hn:newOK σ f=true)(k:Chain P C ops fin Q (addI m (infOf v f)) rest (σ.upd o.dst v f.W)):Chain P C ops fin Q m (o::rest) σ:=by
 unfold gst at hg;cases e:o.guard with
 | none=>exact .step v f (.inl e) h hk hn k
 | some x=>
   obtain⟨g,b⟩:=x;simp only[e]at hg;split at hg
   ·rename_i t ht;split at hg
    ·rename_i c hc;refine .step v f (.inr ⟨g,b,e,?_⟩) h hk hn k;unfold isB;rw[ht];show get? σ.env t=_;rw[hc];cases b<;>cases c<;>simp_all
    ·cases hg
    ·cases hg
   ·cases hg
theorem Chain.skip(hg:gst ops σ o=some false)(k:Chain P C ops fin Q (addI m (infOf (.t []) {})) rest (σ.upd o.dst (.t []) [])):Chain P C ops fin Q m (o::rest) σ:=by
 unfold gst at hg;cases e:o.guard with
 | none=>simp[e]at hg
 | some x=>
   obtain⟨g,b⟩:=x;simp only[e]at hg;split at hg
   ·rename_i t ht;split at hg
    ·rename_i c hc;refine .off g b e ?_ k;unfold notB;rw[ht];refine .inl ?_;rw[hc];cases b<;>cases c<;>simp_all
    ·rename_i hc;refine .off g b e ?_ k;unfold notB;rw[ht];exact .inr hc
    ·cases hg
   ·cases hg
section
variable {E:List (Nat×AV)}{O:List (Nat×AO)}{v:AV}{d id:Nat}{ob:AO}{R X:List Nat}{nw:Option Nat}
theorem Chain.go(hg:gst ops ⟨E,O⟩ o=some true)(hd:o.dst=some d)(h:Do P C o ⟨E,O⟩ v ⟨R,X,[],none⟩)(k:Chain P C ops fin Q none rest ⟨(d,v)::E,O⟩):Chain P C ops fin Q none (o::rest) ⟨E,O⟩:=
 .run hg h rfl rfl (by rw[hd];exact k)
theorem Chain.goD(hg:gst ops ⟨E,O⟩ o=some true)(hd:o.dst=some d)(h:Do P C o ⟨E,O⟩ v ⟨R,X,[],none⟩)(k:Chain P C ops fin Q (some (l++[infOf v ⟨R,X,[],none⟩])) rest ⟨(d,v)::E,O⟩):Chain P C ops fin Q (some l) (o::rest) ⟨E,O⟩:=
 .run hg h rfl rfl (by rw[hd];exact k)
theorem Chain.no(hg:gst ops ⟨E,O⟩ o=some false)(hd:o.dst=some d)(k:Chain P C ops fin Q none rest ⟨(d,.t [])::E,O⟩):Chain P C ops fin Q none (o::rest) ⟨E,O⟩:=
 .skip hg (by rw[hd];exact k)
theorem Chain.noD(hg:gst ops ⟨E,O⟩ o=some false)(hd:o.dst=some d)(k:Chain P C ops fin Q (some (l++[infOf (.t []) {}])) rest ⟨(d,.t [])::E,O⟩):Chain P C ops fin Q (some l) (o::rest) ⟨E,O⟩:=
 .skip hg (by rw[hd];exact k)
theorem Chain.noN(hg:gst ops ⟨E,O⟩ o=some false)(hd:o.dst=none)(k:Chain P C ops fin Q (addI m (infOf (.t []) {})) rest ⟨E,O⟩):Chain P C ops fin Q m (o::rest) ⟨E,O⟩:=
 .skip hg (by rw[hd];exact k)
theorem Chain.ef(hg:gst ops ⟨E,O⟩ o=some true)(hd:o.dst=some d)(h:Do P C o ⟨E,O⟩ v ⟨R,X,[(id,ob)],nw⟩)(hk:kindB ⟨E,O⟩ ⟨R,X,[(id,ob)],nw⟩=true)(hn:newOK ⟨E,O⟩ ⟨R,X,[(id,ob)],nw⟩=true)(k:Chain P C ops fin Q none rest ⟨(d,v)::E,(id,ob)::O⟩):Chain P C ops fin Q none (o::rest) ⟨E,O⟩:=
 .run hg h hk hn (by rw[hd];exact k)
theorem Chain.efD(hg:gst ops ⟨E,O⟩ o=some true)(hd:o.dst=some d)(h:Do P C o ⟨E,O⟩ v ⟨R,X,[(id,ob)],nw⟩)(hk:kindB ⟨E,O⟩ ⟨R,X,[(id,ob)],nw⟩=true)(hn:newOK ⟨E,O⟩ ⟨R,X,[(id,ob)],nw⟩=true)(k:Chain P C ops fin Q (some (l++[infOf v ⟨R,X,[(id,ob)],nw⟩])) rest ⟨(d,v)::E,(id,ob)::O⟩):Chain P C ops fin Q (some l) (o::rest) ⟨E,O⟩:=
 .run hg h hk hn (by rw[hd];exact k)
theorem Chain.st(hg:gst ops ⟨E,O⟩ o=some true)(hd:o.dst=none)(h:Do P C o ⟨E,O⟩ v ⟨R,X,[(id,ob)],nw⟩)(hk:kindB ⟨E,O⟩ ⟨R,X,[(id,ob)],nw⟩=true)(hn:newOK ⟨E,O⟩ ⟨R,X,[(id,ob)],nw⟩=true)(k:Chain P C ops fin Q none rest ⟨E,(id,ob)::O⟩):Chain P C ops fin Q none (o::rest) ⟨E,O⟩:=
 .run hg h hk hn (by rw[hd];exact k)
theorem Chain.stD(hg:gst ops ⟨E,O⟩ o=some true)(hd:o.dst=none)(h:Do P C o ⟨E,O⟩ v ⟨R,X,[(id,ob)],nw⟩)(hk:kindB ⟨E,O⟩ ⟨R,X,[(id,ob)],nw⟩=true)(hn:newOK ⟨E,O⟩ ⟨R,X,[(id,ob)],nw⟩=true)(k:Chain P C ops fin Q (some (l++[infOf v ⟨R,X,[(id,ob)],nw⟩])) rest ⟨E,(id,ob)::O⟩):Chain P C ops fin Q (some l) (o::rest) ⟨E,O⟩:=
 .run hg h hk hn (by rw[hd];exact k)
end
theorem Chain.nil0{σ:AS}(h:Q σ):Chain P C ops fin Q none [] σ:= .nil (fun _ h=>by cases h) h
theorem Chain.nilD{ms:List Nat}{σ:AS}(hm:okI ms l=true)(h:Q σ):Chain P C ops (YtbbpecfapohlaaaGreatDoor.fin ms) Q (some l) [] σ:= .nil (fun _ h=>by cases h;exact hm) h
abbrev Loc(P:Program)(C:Cx)(o:Oper)(σ:AS)(v:AV):Prop:=Do P C o σ v ⟨[],[],[],none⟩
abbrev LocR(P:Program)(C:Cx)(o:Oper)(σ:AS)(v:AV)(id:Nat):Prop:=Do P C o σ v ⟨[id],[],[],none⟩
abbrev LocX(P:Program)(C:Cx)(o:Oper)(σ:AS)(v:AV)(id:Nat):Prop:=Do P C o σ v ⟨[],[id],[],none⟩
theorem Loc.quiet{v:AV}{R X:List Nat}(h:∀ σ',Like o σ σ' ⟨R,X,[],none⟩→∀ β a w,Inv C σ' β a w→∃ u,(execOp a.eval o).run P w= .ok (.value u) w∧RA (Dat C β σ'.objs w) w β σ'.objs u v):Do P C o σ v ⟨R,X,[],none⟩:=
 Do.of fun σ' hl β a w hi=>by
  obtain⟨u,h1,h2⟩:=h σ' hl β a w hi;exact⟨u,w,h1,Below.refl _ _,h2⟩
theorem Loc.one{v x:AV}{X:Operand}(hX:X∈o.op.operands.toList)(hx:ev σ X=x)
  (h:∀ S w β O (a:Act),RA S w β O (a.eval X) x→∃ u,(execOp a.eval o).run P w= .ok (.value u) w∧RA S w β O u v):Loc P C o σ v:=
 Loc.quiet fun σ' hl β a w hi=>h _ _ _ _ a (by have:=hl.ra hi hX;rwa[hx]at this)
theorem Loc.two{v x y:AV}{X Y:Operand}(hX:X∈o.op.operands.toList)(hx:ev σ X=x)(hY:Y∈o.op.operands.toList)(hy:ev σ Y=y)
  (h:∀ S w β O (a:Act),RA S w β O (a.eval X) x→RA S w β O (a.eval Y) y→∃ u,(execOp a.eval o).run P w= .ok (.value u) w∧RA S w β O u v):Loc P C o σ v:=
 Loc.quiet fun σ' hl β a w hi=>h _ _ _ _ a (by have:=hl.ra hi hX;rwa[hx]at this) (by have:=hl.ra hi hY;rwa[hy]at this)
theorem RA.val{S:Nat→Prop}{w:World}{β:Nat→Value}{O:List (Nat×AO)}{u x:Value}(h:RA S w β O u (.d (.v x))):u=x:=by cases h;rfl
theorem RA.mk{S:Nat→Prop}{w:World}{β:Nat→Value}{O:List (Nat×AO)}{x:Value}(h:x.oneCell'=true):RA S w β O x (.d (.v x)):=RD.v h
theorem Loc.move{x:Operand}{v:AV}(ho:o.op= .move x)(hx:ev σ x=v):Loc P C o σ v:=
 Loc.one (by rw[ho];simp[Op.operands]) hx fun S w β O a h=>⟨a.eval x,by unfold execOp;rw[ho];rfl,h⟩
theorem Loc.assign{x:Operand}{v:AV}(ho:o.op= .assign x)(hx:ev σ x=v):Loc P C o σ v:=
 Loc.one (by rw[ho];simp[Op.operands]) hx fun S w β O a h=>⟨a.eval x,by unfold execOp;rw[ho];rfl,h⟩
theorem Loc.pickT{c x y:Operand}{v:AV}(ho:o.op= .pick c x y)(hc:ev σ c= .d (.v (.bool true)))(hx:ev σ x=v):Loc P C o σ v:=
 Loc.two (X:=c) (Y:=x) (by rw[ho];simp[Op.operands]) hc (by rw[ho];simp[Op.operands]) hx fun S w β O a h1 h2=>⟨a.eval x,by unfold execOp;rw[ho];simp[RA.val h1,asBool],h2⟩
theorem Loc.pickF{c x y:Operand}{v:AV}(ho:o.op= .pick c x y)(hc:ev σ c= .d (.v (.bool false)))(hx:ev σ y=v):Loc P C o σ v:=
 Loc.two (X:=c) (Y:=y) (by rw[ho];simp[Op.operands]) hc (by rw[ho];simp[Op.operands]) hx fun S w β O a h1 h2=>⟨a.eval y,by unfold execOp;rw[ho];simp[RA.val h1,asBool],h2⟩
theorem Loc.not{x:Operand}{T:TypeId}{b:Bool}(ho:o.op= .unOp .not T x)(hx:ev σ x= .d (.v (.bool b))):Loc P C o σ (.d (.v (.bool (!b)))):=
 Loc.one (by rw[ho];simp[Op.operands]) hx fun S w β O a h=>⟨_,by unfold execOp;rw[ho];simp[RA.val h,Op.unary],.mk rfl⟩
theorem Loc.notT{x:Operand}{T:TypeId}(ho:o.op= .unOp .not T x)(hx:ev σ x= .d (.v (.bool true))):Loc P C o σ (.d (.v (.bool false))):=Loc.not ho hx
theorem Loc.notF{x:Operand}{T:TypeId}(ho:o.op= .unOp .not T x)(hx:ev σ x= .d (.v (.bool false))):Loc P C o σ (.d (.v (.bool true))):=Loc.not ho hx
theorem Loc.extract{x:Operand}{i:Nat}{xs:List DV}{v:AV}(ho:o.op= .extract x i)(hx:ev σ x= .t xs)(hv:(match xs[i]? with | some (.d c)=>AV.d c | some (.g cs)=> .g cs | none=> .un)=v)(hi:Nat.blt i xs.length=true):Loc P C o σ v:=
 Loc.one (by rw[ho];simp[Op.operands]) hx fun S w β O a h=>by
  obtain⟨us,h1,h2,h3⟩:=h;have hlt:i<xs.length:=by rwa[Nat.blt_eq]at hi
  refine⟨us[i]'(by omega),by unfold execOp;rw[ho];simp[h1,Instr.extract,List.getElem?_eq_getElem (show i<us.length by omega)],?_⟩;have:=h3 i (by omega) hlt;rw[List.getElem?_eq_getElem hlt]at hv;subst hv;cases e:xs[i]with
  | d c=>rw[e]at this;exact this
  | g cs=>rw[e]at this;exact this
theorem Loc.bin{op:BinOp}{T T':TypeId}{x y:Operand}{k:IntKind}{a b:Int}{v:Value}(ho:o.op= .binOp op T x y T')(hx:ev σ x= .d (.v (.int k a)))(hy:ev σ y= .d (.v (.int k b)))
  (hr:∀ w,(binOp op T (.int k a) (.int k b)).run P w= .ok v w) (h1:v.oneCell'=true):Loc P C o σ (.d (.v v)):=
 Loc.two (by rw[ho];simp[Op.operands]) hx (by rw[ho];simp[Op.operands]) hy fun S w β O c h1' h2'=>by
  refine⟨v,?_,.mk h1⟩;unfold execOp;rw[ho];have hg:(eqGuard op T x y (.int k a) (.int k b)).run P w= .ok () w:=by
   unfold eqGuard;cases op<;>simp
  simp[RA.val h1',RA.val h2',hg,hr]
theorem Loc.add{T T':TypeId}{x y:Operand}{k:IntKind}{a b:Int}(ho:o.op= .binOp .add T x y T')(hx:ev σ x= .d (.v (.int k a)))(hy:ev σ y= .d (.v (.int k b)))(hr:k.wrap (a+b)=a+b):Loc P C o σ (.d (.v (.int k (a+b)))):=
 Loc.bin ho hx hy (fun w=>by cases k<;>simp[binOp,Op.intArith,hr]) rfl
theorem Loc.sub{T T':TypeId}{x y:Operand}{k:IntKind}{a b:Int}(ho:o.op= .binOp .sub T x y T')(hx:ev σ x= .d (.v (.int k a)))(hy:ev σ y= .d (.v (.int k b)))(hr:k.wrap (a-b)=a-b):Loc P C o σ (.d (.v (.int k (a-b)))):=
 Loc.bin ho hx hy (fun w=>by cases k<;>simp[binOp,Op.intArith,hr]) rfl
theorem Loc.mul{T T':TypeId}{x y:Operand}{k:IntKind}{a b:Int}(ho:o.op= .binOp .mul T x y T')(hx:ev σ x= .d (.v (.int k a)))(hy:ev σ y= .d (.v (.int k b)))(hr:k.wrap (a*b)=a*b):Loc P C o σ (.d (.v (.int k (a*b)))):=
 Loc.bin ho hx hy (fun w=>by cases k<;>simp[binOp,Op.intArith,hr]) rfl
theorem Loc.quo{T T':TypeId}{x y:Operand}{k:IntKind}{a b:Int}(ho:o.op= .binOp .quo T x y T')(hx:ev σ x= .d (.v (.int k a)))(hy:ev σ y= .d (.v (.int k b)))(h0:0≤a)(hb:0<b)(hr:k.wrap (a / b)=a / b):Loc P C o σ (.d (.v (.int k (a / b)))):=
 Loc.bin ho hx hy (fun w=>by
  have h1:¬ b=0:=by omega
  have h2:a.tdiv b=a / b:=Int.tdiv_eq_ediv_of_nonneg h0;cases k<;>simp[binOp,Op.intDiv,h1,h2,hr]) rfl
theorem Loc.rem{T T':TypeId}{x y:Operand}{k:IntKind}{a b:Int}(ho:o.op= .binOp .rem T x y T')(hx:ev σ x= .d (.v (.int k a)))(hy:ev σ y= .d (.v (.int k b)))(h0:0≤a)(hb:0<b):Loc P C o σ (.d (.v (.int k (a % b)))):=
 Loc.bin ho hx hy (fun w=>by
  have h1:¬ b=0:=by omega
  have h2:a.tmod b=a % b:=Int.tmod_eq_emod_of_nonneg h0;cases k<;>simp[binOp,Op.intDiv,h1,h2]) rfl
theorem Loc.neg{T:TypeId}{x:Operand}{k:IntKind}{a:Int}(ho:o.op= .unOp .neg T x)(hx:ev σ x= .d (.v (.int k a)))(hr:k.wrap (0-a)= -a):Loc P C o σ (.d (.v (.int k (-a)))):=
 Loc.one (by rw[ho];simp[Op.operands]) hx fun S w β O c h=>⟨_,by unfold execOp;rw[ho];simp[RA.val h,Op.unary,Op.intArith];simpa using hr,.mk rfl⟩
theorem Loc.eqlT{T T':TypeId}{x y:Operand}{k:IntKind}{a b:Int}(ho:o.op= .binOp .eql T x y T')(hx:ev σ x= .d (.v (.int k a)))(hy:ev σ y= .d (.v (.int k b)))(h:a=b):Loc P C o σ (.d (.v (.bool true))):=
 Loc.bin ho hx hy (fun w=>by cases k<;>simp[binOp,Op.intCmp]<;>omega) rfl
theorem Loc.eqlF{T T':TypeId}{x y:Operand}{k:IntKind}{a b:Int}(ho:o.op= .binOp .eql T x y T')(hx:ev σ x= .d (.v (.int k a)))(hy:ev σ y= .d (.v (.int k b)))(h:¬ (a=b)):Loc P C o σ (.d (.v (.bool false))):=
 Loc.bin ho hx hy (fun w=>by cases k<;>simp[binOp,Op.intCmp]<;>omega) rfl
theorem Chain.eql{E:List (Nat×AV)}{O:List (Nat×AO)}{d:Nat}{T T':TypeId}{x y:Operand}{k:IntKind}{a b:Int}(hg:gst ops ⟨E,O⟩ o=some true)(hd:o.dst=some d)(ho:o.op= .binOp .eql T x y T')(hx:ev ⟨E,O⟩ x= .d (.v (.int k a)))(hy:ev ⟨E,O⟩ y= .d (.v (.int k b)))
  (ht:a=b→Chain P C ops fin Q none rest ⟨(d,.d (.v (.bool true)))::E,O⟩) (hf:¬ (a=b)→Chain P C ops fin Q none rest ⟨(d,.d (.v (.bool false)))::E,O⟩):Chain P C ops fin Q none (o::rest) ⟨E,O⟩:=by
 by_cases h:a=b
 ·exact .go hg hd (Loc.eqlT ho hx hy h) (ht h)
 ·exact .go hg hd (Loc.eqlF ho hx hy h) (hf h)
theorem Chain.eqlD{E:List (Nat×AV)}{O:List (Nat×AO)}{d:Nat}{T T':TypeId}{x y:Operand}{k:IntKind}{a b:Int}(hg:gst ops ⟨E,O⟩ o=some true)(hd:o.dst=some d)(ho:o.op= .binOp .eql T x y T')(hx:ev ⟨E,O⟩ x= .d (.v (.int k a)))(hy:ev ⟨E,O⟩ y= .d (.v (.int k b)))
  (ht:a=b→Chain P C ops fin Q (some (l++[infOf (.d (.v (.bool true))) {}])) rest ⟨(d,.d (.v (.bool true)))::E,O⟩) (hf:¬ (a=b)→Chain P C ops fin Q (some (l++[infOf (.d (.v (.bool false))) {}])) rest ⟨(d,.d (.v (.bool false)))::E,O⟩):Chain P C ops fin Q (some l) (o::rest) ⟨E,O⟩:=by
 by_cases h:a=b
 ·exact .goD hg hd (Loc.eqlT ho hx hy h) (ht h)
 ·exact .goD hg hd (Loc.eqlF ho hx hy h) (hf h)
theorem Loc.neqT{T T':TypeId}{x y:Operand}{k:IntKind}{a b:Int}(ho:o.op= .binOp .neq T x y T')(hx:ev σ x= .d (.v (.int k a)))(hy:ev σ y= .d (.v (.int k b)))(h:a≠b):Loc P C o σ (.d (.v (.bool true))):=
 Loc.bin ho hx hy (fun w=>by cases k<;>simp[binOp,Op.intCmp]<;>omega) rfl
theorem Loc.neqF{T T':TypeId}{x y:Operand}{k:IntKind}{a b:Int}(ho:o.op= .binOp .neq T x y T')(hx:ev σ x= .d (.v (.int k a)))(hy:ev σ y= .d (.v (.int k b)))(h:¬ (a≠b)):Loc P C o σ (.d (.v (.bool false))):=
 Loc.bin ho hx hy (fun w=>by cases k<;>simp[binOp,Op.intCmp]<;>omega) rfl
theorem Chain.neq{E:List (Nat×AV)}{O:List (Nat×AO)}{d:Nat}{T T':TypeId}{x y:Operand}{k:IntKind}{a b:Int}(hg:gst ops ⟨E,O⟩ o=some true)(hd:o.dst=some d)(ho:o.op= .binOp .neq T x y T')(hx:ev ⟨E,O⟩ x= .d (.v (.int k a)))(hy:ev ⟨E,O⟩ y= .d (.v (.int k b)))
  (ht:a≠b→Chain P C ops fin Q none rest ⟨(d,.d (.v (.bool true)))::E,O⟩) (hf:¬ (a≠b)→Chain P C ops fin Q none rest ⟨(d,.d (.v (.bool false)))::E,O⟩):Chain P C ops fin Q none (o::rest) ⟨E,O⟩:=by
 by_cases h:a≠b
 ·exact .go hg hd (Loc.neqT ho hx hy h) (ht h)
 ·exact .go hg hd (Loc.neqF ho hx hy h) (hf h)
theorem Chain.neqD{E:List (Nat×AV)}{O:List (Nat×AO)}{d:Nat}{T T':TypeId}{x y:Operand}{k:IntKind}{a b:Int}(hg:gst ops ⟨E,O⟩ o=some true)(hd:o.dst=some d)(ho:o.op= .binOp .neq T x y T')(hx:ev ⟨E,O⟩ x= .d (.v (.int k a)))(hy:ev ⟨E,O⟩ y= .d (.v (.int k b)))
  (ht:a≠b→Chain P C ops fin Q (some (l++[infOf (.d (.v (.bool true))) {}])) rest ⟨(d,.d (.v (.bool true)))::E,O⟩) (hf:¬ (a≠b)→Chain P C ops fin Q (some (l++[infOf (.d (.v (.bool false))) {}])) rest ⟨(d,.d (.v (.bool false)))::E,O⟩):Chain P C ops fin Q (some l) (o::rest) ⟨E,O⟩:=by
 by_cases h:a≠b
 ·exact .goD hg hd (Loc.neqT ho hx hy h) (ht h)
 ·exact .goD hg hd (Loc.neqF ho hx hy h) (hf h)
theorem Loc.lssT{T T':TypeId}{x y:Operand}{k:IntKind}{a b:Int}(ho:o.op= .binOp .lss T x y T')(hx:ev σ x= .d (.v (.int k a)))(hy:ev σ y= .d (.v (.int k b)))(h:a<b):Loc P C o σ (.d (.v (.bool true))):=
 Loc.bin ho hx hy (fun w=>by cases k<;>simp[binOp,Op.intCmp]<;>omega) rfl
theorem Loc.lssF{T T':TypeId}{x y:Operand}{k:IntKind}{a b:Int}(ho:o.op= .binOp .lss T x y T')(hx:ev σ x= .d (.v (.int k a)))(hy:ev σ y= .d (.v (.int k b)))(h:¬ (a<b)):Loc P C o σ (.d (.v (.bool false))):=
 Loc.bin ho hx hy (fun w=>by cases k<;>simp[binOp,Op.intCmp]<;>omega) rfl
theorem Chain.lss{E:List (Nat×AV)}{O:List (Nat×AO)}{d:Nat}{T T':TypeId}{x y:Operand}{k:IntKind}{a b:Int}(hg:gst ops ⟨E,O⟩ o=some true)(hd:o.dst=some d)(ho:o.op= .binOp .lss T x y T')(hx:ev ⟨E,O⟩ x= .d (.v (.int k a)))(hy:ev ⟨E,O⟩ y= .d (.v (.int k b)))
  (ht:a<b→Chain P C ops fin Q none rest ⟨(d,.d (.v (.bool true)))::E,O⟩) (hf:¬ (a<b)→Chain P C ops fin Q none rest ⟨(d,.d (.v (.bool false)))::E,O⟩):Chain P C ops fin Q none (o::rest) ⟨E,O⟩:=by
 by_cases h:a<b
 ·exact .go hg hd (Loc.lssT ho hx hy h) (ht h)
 ·exact .go hg hd (Loc.lssF ho hx hy h) (hf h)
theorem Chain.lssD{E:List (Nat×AV)}{O:List (Nat×AO)}{d:Nat}{T T':TypeId}{x y:Operand}{k:IntKind}{a b:Int}(hg:gst ops ⟨E,O⟩ o=some true)(hd:o.dst=some d)(ho:o.op= .binOp .lss T x y T')(hx:ev ⟨E,O⟩ x= .d (.v (.int k a)))(hy:ev ⟨E,O⟩ y= .d (.v (.int k b)))
  (ht:a<b→Chain P C ops fin Q (some (l++[infOf (.d (.v (.bool true))) {}])) rest ⟨(d,.d (.v (.bool true)))::E,O⟩) (hf:¬ (a<b)→Chain P C ops fin Q (some (l++[infOf (.d (.v (.bool false))) {}])) rest ⟨(d,.d (.v (.bool false)))::E,O⟩):Chain P C ops fin Q (some l) (o::rest) ⟨E,O⟩:=by
 by_cases h:a<b
 ·exact .goD hg hd (Loc.lssT ho hx hy h) (ht h)
 ·exact .goD hg hd (Loc.lssF ho hx hy h) (hf h)
theorem Loc.leqT{T T':TypeId}{x y:Operand}{k:IntKind}{a b:Int}(ho:o.op= .binOp .leq T x y T')(hx:ev σ x= .d (.v (.int k a)))(hy:ev σ y= .d (.v (.int k b)))(h:a≤b):Loc P C o σ (.d (.v (.bool true))):=
 Loc.bin ho hx hy (fun w=>by cases k<;>simp[binOp,Op.intCmp]<;>omega) rfl
theorem Loc.leqF{T T':TypeId}{x y:Operand}{k:IntKind}{a b:Int}(ho:o.op= .binOp .leq T x y T')(hx:ev σ x= .d (.v (.int k a)))(hy:ev σ y= .d (.v (.int k b)))(h:¬ (a≤b)):Loc P C o σ (.d (.v (.bool false))):=
 Loc.bin ho hx hy (fun w=>by cases k<;>simp[binOp,Op.intCmp]<;>omega) rfl
theorem Chain.leq{E:List (Nat×AV)}{O:List (Nat×AO)}{d:Nat}{T T':TypeId}{x y:Operand}{k:IntKind}{a b:Int}(hg:gst ops ⟨E,O⟩ o=some true)(hd:o.dst=some d)(ho:o.op= .binOp .leq T x y T')(hx:ev ⟨E,O⟩ x= .d (.v (.int k a)))(hy:ev ⟨E,O⟩ y= .d (.v (.int k b)))
  (ht:a≤b→Chain P C ops fin Q none rest ⟨(d,.d (.v (.bool true)))::E,O⟩) (hf:¬ (a≤b)→Chain P C ops fin Q none rest ⟨(d,.d (.v (.bool false)))::E,O⟩):Chain P C ops fin Q none (o::rest) ⟨E,O⟩:=by
 by_cases h:a≤b
 ·exact .go hg hd (Loc.leqT ho hx hy h) (ht h)
 ·exact .go hg hd (Loc.leqF ho hx hy h) (hf h)
theorem Loc.gtrT{T T':TypeId}{x y:Operand}{k:IntKind}{a b:Int}(ho:o.op= .binOp .gtr T x y T')(hx:ev σ x= .d (.v (.int k a)))(hy:ev σ y= .d (.v (.int k b)))(h:b<a):Loc P C o σ (.d (.v (.bool true))):=
 Loc.bin ho hx hy (fun w=>by cases k<;>simp[binOp,Op.intCmp]<;>omega) rfl
theorem Loc.gtrF{T T':TypeId}{x y:Operand}{k:IntKind}{a b:Int}(ho:o.op= .binOp .gtr T x y T')(hx:ev σ x= .d (.v (.int k a)))(hy:ev σ y= .d (.v (.int k b)))(h:¬ (b<a)):Loc P C o σ (.d (.v (.bool false))):=
 Loc.bin ho hx hy (fun w=>by cases k<;>simp[binOp,Op.intCmp]<;>omega) rfl
theorem Chain.gtr{E:List (Nat×AV)}{O:List (Nat×AO)}{d:Nat}{T T':TypeId}{x y:Operand}{k:IntKind}{a b:Int}(hg:gst ops ⟨E,O⟩ o=some true)(hd:o.dst=some d)(ho:o.op= .binOp .gtr T x y T')(hx:ev ⟨E,O⟩ x= .d (.v (.int k a)))(hy:ev ⟨E,O⟩ y= .d (.v (.int k b)))
  (ht:b<a→Chain P C ops fin Q none rest ⟨(d,.d (.v (.bool true)))::E,O⟩) (hf:¬ (b<a)→Chain P C ops fin Q none rest ⟨(d,.d (.v (.bool false)))::E,O⟩):Chain P C ops fin Q none (o::rest) ⟨E,O⟩:=by
 by_cases h:b<a
 ·exact .go hg hd (Loc.gtrT ho hx hy h) (ht h)
 ·exact .go hg hd (Loc.gtrF ho hx hy h) (hf h)
theorem Chain.gtrD{E:List (Nat×AV)}{O:List (Nat×AO)}{d:Nat}{T T':TypeId}{x y:Operand}{k:IntKind}{a b:Int}(hg:gst ops ⟨E,O⟩ o=some true)(hd:o.dst=some d)(ho:o.op= .binOp .gtr T x y T')(hx:ev ⟨E,O⟩ x= .d (.v (.int k a)))(hy:ev ⟨E,O⟩ y= .d (.v (.int k b)))
  (ht:b<a→Chain P C ops fin Q (some (l++[infOf (.d (.v (.bool true))) {}])) rest ⟨(d,.d (.v (.bool true)))::E,O⟩) (hf:¬ (b<a)→Chain P C ops fin Q (some (l++[infOf (.d (.v (.bool false))) {}])) rest ⟨(d,.d (.v (.bool false)))::E,O⟩):Chain P C ops fin Q (some l) (o::rest) ⟨E,O⟩:=by
 by_cases h:b<a
 ·exact .goD hg hd (Loc.gtrT ho hx hy h) (ht h)
 ·exact .goD hg hd (Loc.gtrF ho hx hy h) (hf h)
theorem Loc.geqT{T T':TypeId}{x y:Operand}{k:IntKind}{a b:Int}(ho:o.op= .binOp .geq T x y T')(hx:ev σ x= .d (.v (.int k a)))(hy:ev σ y= .d (.v (.int k b)))(h:b≤a):Loc P C o σ (.d (.v (.bool true))):=
 Loc.bin ho hx hy (fun w=>by cases k<;>simp[binOp,Op.intCmp]<;>omega) rfl
theorem Loc.geqF{T T':TypeId}{x y:Operand}{k:IntKind}{a b:Int}(ho:o.op= .binOp .geq T x y T')(hx:ev σ x= .d (.v (.int k a)))(hy:ev σ y= .d (.v (.int k b)))(h:¬ (b≤a)):Loc P C o σ (.d (.v (.bool false))):=
 Loc.bin ho hx hy (fun w=>by cases k<;>simp[binOp,Op.intCmp]<;>omega) rfl
theorem Chain.geq{E:List (Nat×AV)}{O:List (Nat×AO)}{d:Nat}{T T':TypeId}{x y:Operand}{k:IntKind}{a b:Int}(hg:gst ops ⟨E,O⟩ o=some true)(hd:o.dst=some d)(ho:o.op= .binOp .geq T x y T')(hx:ev ⟨E,O⟩ x= .d (.v (.int k a)))(hy:ev ⟨E,O⟩ y= .d (.v (.int k b)))
  (ht:b≤a→Chain P C ops fin Q none rest ⟨(d,.d (.v (.bool true)))::E,O⟩) (hf:¬ (b≤a)→Chain P C ops fin Q none rest ⟨(d,.d (.v (.bool false)))::E,O⟩):Chain P C ops fin Q none (o::rest) ⟨E,O⟩:=by
 by_cases h:b≤a
 ·exact .go hg hd (Loc.geqT ho hx hy h) (ht h)
 ·exact .go hg hd (Loc.geqF ho hx hy h) (hf h)
theorem Chain.geqD{E:List (Nat×AV)}{O:List (Nat×AO)}{d:Nat}{T T':TypeId}{x y:Operand}{k:IntKind}{a b:Int}(hg:gst ops ⟨E,O⟩ o=some true)(hd:o.dst=some d)(ho:o.op= .binOp .geq T x y T')(hx:ev ⟨E,O⟩ x= .d (.v (.int k a)))(hy:ev ⟨E,O⟩ y= .d (.v (.int k b)))
  (ht:b≤a→Chain P C ops fin Q (some (l++[infOf (.d (.v (.bool true))) {}])) rest ⟨(d,.d (.v (.bool true)))::E,O⟩) (hf:¬ (b≤a)→Chain P C ops fin Q (some (l++[infOf (.d (.v (.bool false))) {}])) rest ⟨(d,.d (.v (.bool false)))::E,O⟩):Chain P C ops fin Q (some l) (o::rest) ⟨E,O⟩:=by
 by_cases h:b≤a
 ·exact .goD hg hd (Loc.geqT ho hx hy h) (ht h)
 ·exact .goD hg hd (Loc.geqF ho hx hy h) (hf h)
end
section
variable {P:Program}{C:Cx}{o:Oper}{σ:AS}
theorem run_fieldAt{T f off:Nat}(h:Fl P T f off)(b o:Nat)(w:World):(Instr.fieldAt T (.pointer (some ⟨b,o,none⟩)) f).run P w= .ok (.pointer (some ⟨b,o+off,none⟩)) w:=by
 obtain⟨fs,fd,h1,h2,rfl,m,h3⟩:=h.u;obtain⟨i,h4,h5⟩:=Option.map_eq_some_iff.1 h3;simp[Instr.fieldAt,run_underlying h1,h2,Instr.sureAddr,fieldPlace,sizeOf,typeInfo,h4,h5,Addr.add_mid]
theorem Loc.fieldP{T f:Nat}{x:Operand}{id off fo:Nat}{T':TypeId}{cs:List AV}(ho:o.op= .fieldAddr T x f)(hx:ev σ x= .p id off)(hO:get? σ.objs id=some (.box T' cs))[h:Fl P T f fo]:LocX P C o σ (.p id (off+fo)) id:=
 Loc.quiet fun σ' hl β a w hi=>by
  have h1:=hl.ra hi (x:=x) (by rw[ho];simp[Op.operands]);rw[hx]at h1;obtain⟨T2,cs2,hO2⟩:=hl.box id (by simp) T' cs hO;obtain⟨b,hb,hu⟩:=h1 T2 cs2 hO2;refine⟨_,by unfold execOp;rw[ho];simp[hu,run_fieldAt h],fun T'' cs'' h=>⟨b,hb,rfl⟩⟩
theorem Loc.fieldQ{T f:Nat}{x:Operand}{fo:Nat}{cs:List D}(ho:o.op= .fieldAddr T x f)(hx:ev σ x= .q cs)[h:Fl P T f fo]:Loc P C o σ (.q (cs.drop fo)):=
 Loc.one (by rw[ho];simp[Op.operands]) hx fun S w β O a h1=>by
  obtain⟨b,off,us,hu,hb,hr,hc⟩:=h1;refine⟨_,by unfold execOp;rw[ho];simp[hu,run_fieldAt h],b,off+fo,us.drop fo,rfl,hb,hr.drop fo,fun j v hv=>?_⟩;rw[List.getElem?_drop]at hv;rw[Nat.add_assoc];exact hc _ _ hv
theorem Loc.fieldE{T f:Nat}{x:Operand}{id g idx off fo k:Nat}{e:TypeId}{xs:List (List D)}(ho:o.op= .fieldAddr T x f)(hx:ev σ x= .e id g idx off)(hO:get? σ.objs id=some (.row g e k xs))[h:Fl P T f fo]:LocR P C o σ (.e id g idx (off+fo)) id:=
 Loc.quiet fun σ' hl β a w hi=>by
  have h1:=hl.ra hi (x:=x) (by rw[ho];simp[Op.operands]);rw[hx]at h1;obtain⟨b,n,c,hb,hu⟩:=(h1 g e k xs (by rw[hl.rd id (by simp)];exact hO)).2 rfl;refine⟨.pointer (some ⟨b,idx*k+off+fo,none⟩),by unfold execOp;rw[ho];simp[hu,run_fieldAt h],fun g' e' k' xs' h'=>?_⟩;rw[hl.rd id (by simp),hO]at h';cases h';exact⟨Nat.le_refl _,fun _=>⟨b,n,c,hb,by rw[Nat.add_assoc]⟩⟩
theorem run_indexAt{T e k by_:Nat}(h:Elem P T e k by_)(b o len cap:Nat)(kd:IntKind)(i:Nat)(hi:i<len)(w:World):
  (Instr.indexAt T (.slice (some ⟨b,o,none⟩) len cap) (.int kd (i:Int))).run P w= .ok (.pointer (some ⟨b,o+i*k,none⟩)) w:=by
 obtain⟨ti,z,h4,_,h5,_⟩:=h.info;have h0:¬ len≤1∨len≤1:=by omega
 simp[Instr.indexAt,asIntOf,run_underlying h.under,sizeOf,typeInfo,h4,h5,Addr.add_mid,hi]
theorem Loc.idx{T:TypeId}{x y:Operand}{kd:IntKind}{m:Int}{i:Nat}{e k by_:Nat}{xs:List (List D)}{cs:List D}(ho:o.op= .indexAddr T x y)(hx:ev σ x= .d (.l xs))(hy:ev σ y= .d (.v (.int kd m)))(hm:m=(i:Int))(hi:xs[i]?=some cs)(hk:cs.length=k)[h:Sl P T e k by_]:Loc P C o σ (.q cs):=by
 subst hm;exact Loc.two (by rw[ho];simp[Op.operands]) hx (by rw[ho];simp[Op.operands]) hy fun S w β O a h1 h2=>by
  obtain⟨hlt,hxi⟩:=List.getElem?_eq_some_iff.1 hi;generalize hu:a.eval x=u at h1;cases u with
  | slice ad len cap=>
    obtain⟨hn,hc,hm,k',css,hl,hk',hr,ha⟩:=RD.cells h1;obtain⟨b,off,rfl,hb,hcells⟩:=ha (by omega);have hkk:k'=k:=by rw[←hk' i hlt,hxi,hk]
    subst hkk;refine⟨_,by unfold execOp;rw[ho];simp[hu,RA.val h2,run_indexAt h.e b off len cap kd i (by omega)],b,off+i*k',css[i]'(by omega),rfl,hb,?_,hcells i (by omega)⟩;rw[←hxi];exact hr i (by omega) hlt
  | _=>cases h1
theorem Loc.idxM{α:Type}{f:α→List D}{ts:List α}{t:α}{T:TypeId}{x y:Operand}{kd:IntKind}{m:Int}{i:Nat}{e k by_:Nat}(ho:o.op= .indexAddr T x y)(hx:ev σ x= .d (.l (ts.map f)))(hy:ev σ y= .d (.v (.int kd m)))(hm:m=(i:Int))(hi:ts[i]?=some t)(hk:(f t).length=k)[h:Sl P T e k by_]:Loc P C o σ (.q (f t)):=
 Loc.idx ho hx hy hm (by rw[List.getElem?_map,hi];rfl) hk
theorem Loc.idxR{T:TypeId}{x y:Operand}{kd:IntKind}{m:Int}{i id g:Nat}{e e' k k' by_:Nat}{xs:List (List D)}(ho:o.op= .indexAddr T x y)(hx:ev σ x= .r id g)(hO:get? σ.objs id=some (.row g e' k' xs))(hy:ev σ y= .d (.v (.int kd m)))(hm:m=(i:Int))(hi:i<xs.length)[h:Sl P T e k by_](hk:k'=k):LocR P C o σ (.e id g i 0) id:=
 Loc.quiet fun σ' hl β a w hi'=>by
  subst hk;subst hm;have h1:=hl.ra hi' (x:=x) (by rw[ho];simp[Op.operands]);have h2:=hl.ra hi' (x:=y) (by rw[ho];simp[Op.operands]);rw[hx]at h1;rw[hy]at h2;have hO':get? σ'.objs id=some (.row g e' k' xs):=by rw[hl.rd id (by simp)];exact hO
  have hu:=(h1 g e' k' xs hO').2 rfl;obtain⟨css,hl1,hr1,hk1,hown⟩:=hi'.obj id _ hO';rcases hown.2 with ⟨h0,h3⟩ | ⟨gb,cap,cur,hv,_,hg,hnc,hcm,hcs,htake⟩
  ·omega
  ·refine⟨.pointer (some ⟨gb,i*k',none⟩),by unfold execOp;rw[ho];simp[hu,hv,RA.val h2,run_indexAt h.e gb 0 xs.length cap kd i hi],fun g' e'' k'' xs'' h'=>?_⟩;rw[hO']at h';cases h';exact⟨Nat.le_refl _,fun _=>⟨gb,_,cap,hv,by simp⟩⟩
theorem run_loadAt_one{T:TypeId}{d:TypeDesc}(hu:P.underlying T=some d)(hd:d.isRow=false)(b o:Nat)(v:Value)(w:World)(hc:w.cell? ⟨b,o,none⟩=some v):(Instr.loadAt T (.pointer (some ⟨b,o,none⟩))).run P w= .ok v w:=by
 have hagg:(isAgg T).run P w= .ok false w:=by
  unfold isAgg;rw[Sem.run_bind,run_underlying hu w];cases d<;>simp_all
 simp[Instr.loadAt,Instr.sureAddr,loadVar,Sem.run_bind,hagg,hc]
def dOfs:List AV→Option (List D)
 | []=>some []
 | .d c::r=>match dOfs r with
   | some ds=>some (c::ds)
   | none=>none
 | _::_=>none
theorem dOfs_sound{S:Nat→Prop}{w:World}{β:Nat→Value}{O:List (Nat×AO)}:∀ {cs:List AV} {ds:List D} {us:List Value},dOfs cs=some ds→us.length=cs.length→(∀i (h:i<us.length) (h':i<cs.length),RA S w β O us[i] cs[i])→RDs S w us ds
 | [],ds,us,h,hl,_=>by
   simp only[dOfs,Option.some.injEq]at h;subst h;have:us=[]:=List.eq_nil_of_length_eq_zero (by simpa using hl);subst this;exact .nil
 | .d c::r,ds,u::us,h,hl,hr=>by
   simp only[dOfs]at h;split at h
   ·rename_i ds' hd;injection h with h;subst h;exact .cons (hr 0 (by simp) (by simp)) (dOfs_sound hd (by simpa using hl) fun i h h'=>hr (i+1) (by simpa using h) (by simpa using h'))
   ·cases h
 | .d c::r,ds,[],h,hl,hr=>by simp at hl
 | .g _::_,_,_,h,_,_ | .t _::_,_,_,h,_,_ | .p _ _::_,_,_,h,_,_ | .r _ _::_,_,_,h,_,_ | .e _ _ _ _::_,_,_,h,_,_ | .q _::_,_,_,h,_,_ | .un::_,_,_,h,_,_=>by simp[dOfs]at h
theorem box_range{w:World}{b:Nat}{us:List Value}{T:TypeId}(h:w.heap[b]?=some (.cells us.toArray T (0,0)))(o n:Nat):w.rangeAt b o ((us.drop o).take n):=fun j v hv=>by
 simp only[World.cell?,h];rw[List.getElem?_take]at hv;split at hv
 ·rw[List.getElem?_drop]at hv;simpa using hv
 ·cases hv
theorem Loc.loadP1{T:TypeId}{x:Operand}{id off:Nat}{T':TypeId}{cs:List AV}{v:AV}{n:Nat}(ho:o.op= .load T x)(hx:ev σ x= .p id off)(hO:get? σ.objs id=some (.box T' cs))[h:Sz P T false n](hv:cs[off]?=some v):LocR P C o σ v id:=
 Loc.quiet fun σ' hl β a w hi=>by
  have h1:=hl.ra hi (x:=x) (by rw[ho];simp[Op.operands]);rw[hx]at h1;have hO':get? σ'.objs id=some (.box T' cs):=by rw[hl.rd id (by simp)];exact hO
  obtain⟨b,hb,hu⟩:=h1 T' cs hO';obtain⟨b',us,hb',hh,hlen,hone,hr⟩:=hi.obj id _ hO';rw[hb]at hb';cases hb';obtain⟨hlt,hv'⟩:=List.getElem?_eq_some_iff.1 hv;obtain⟨d,hd1,hd2⟩:=h.u;have hlt':off<us.length:=by omega
  refine⟨us[off],by unfold execOp;rw[ho];simp[hu,run_loadAt_one hd1 hd2 b off us[off] w (by simp[World.cell?,hh,hlt'])],?_⟩;rw[←hv'];exact hr off hlt' hlt
theorem Loc.loadPn{T:TypeId}{x:Operand}{id off:Nat}{T':TypeId}{cs:List AV}{ds:List D}{n:Nat}(ho:o.op= .load T x)(hx:ev σ x= .p id off)(hO:get? σ.objs id=some (.box T' cs))[h:Sz P T true n](hv:dOfs ((cs.drop off).take n)=some ds)(hn:Nat.ble (off+n) cs.length=true):LocR P C o σ (.g ds) id:=
 Loc.quiet fun σ' hl β a w hi=>by
  have h1:=hl.ra hi (x:=x) (by rw[ho];simp[Op.operands]);rw[hx]at h1;have hO':get? σ'.objs id=some (.box T' cs):=by rw[hl.rd id (by simp)];exact hO
  obtain⟨b,hb,hu⟩:=h1 T' cs hO';obtain⟨b',us,hb',hh,hlen,hone,hr⟩:=hi.obj id _ hO';rw[hb]at hb';cases hb';rw[Nat.ble_eq]at hn;obtain⟨d,hd1,hd2⟩:=h.u;refine⟨.agg ((us.drop off).take n).toArray,by unfold execOp;rw[ho];simp only[hu];rw[Sem.run_bind,run_loadAt_mid w b off T _ d (box_range hh off n) hd1 hd2 (by rw[h.s];simp;omega)];rfl,_,rfl,dOfs_sound (β:=β) (O:=σ'.objs) hv (by simp;omega) fun i h h'=>?_⟩;simp only[List.getElem_take,List.getElem_drop];exact hr _ _ _
theorem Loc.loadQ1{T:TypeId}{x:Operand}{cs:List D}{c:D}{n:Nat}(ho:o.op= .load T x)(hx:ev σ x= .q cs)[h:Sz P T false n](hv:cs[0]?=some c):Loc P C o σ (.d c):=
 Loc.one (by rw[ho];simp[Op.operands]) hx fun S w β O a h1=>by
  obtain⟨b,off,us,hu,hb,hr,hc⟩:=h1;obtain⟨u,h3,h4⟩:=hr.at hv;obtain⟨d,hd1,hd2⟩:=h.u;exact⟨u,by unfold execOp;rw[ho];simp[hu,run_loadAt_one hd1 hd2 b off u w (by simpa using hc 0 u h3)],h4⟩
theorem Loc.loadQn{T:TypeId}{x:Operand}{cs ds:List D}{n:Nat}(ho:o.op= .load T x)(hx:ev σ x= .q cs)[h:Sz P T true n](hv:cs.take n=ds)(hn:ds.length=n):Loc P C o σ (.g ds):=
 Loc.one (by rw[ho];simp[Op.operands]) hx fun S w β O a h1=>by
  obtain⟨b,off,us,hu,hb,hr,hc⟩:=h1;obtain⟨d,hd1,hd2⟩:=h.u;have h5:RDs S w (us.take n) ds:=by rw[←hv];exact hr.take n
  have h6:w.rangeAt b off (us.take n):=fun j v hj=>hc j v (by rw[List.getElem?_take]at hj;split at hj;exact hj;cases hj);refine⟨.agg (us.take n).toArray,by unfold execOp;rw[ho];simp only[hu];rw[Sem.run_bind,run_loadAt_mid w b off T _ d h6 hd1 hd2 (by rw[h.s,h5.1,hn])];rfl,_,rfl,h5⟩
theorem Loc.loadQw{T:TypeId}{x:Operand}{cs:List D}{n:Nat}(ho:o.op= .load T x)(hx:ev σ x= .q cs)[h:Sz P T true n](hn:cs.length=n):Loc P C o σ (.g cs):=
 Loc.loadQn ho hx (by rw[List.take_of_length_le (by omega)]) hn
theorem row_range{w:World}{e:TypeId}{k:Nat}{v:Value}{xs:List (List D)}{css:List (List Value)}{S:Nat→Prop}(hl:css.length=xs.length)(hr:∀ i (h:i<css.length) (h':i<xs.length),RDs S w css[i] xs[i])(hk:∀ x∈xs,x.length=k)(hown:w.ownsRow 0 e k v xs.length css.flatten){b n c:Nat}(hv:v= .slice (some ⟨b,0,none⟩) n c)
  (i:Nat) (hi:i<css.length):w.rangeAt b (i*k) css[i]:=fun j u hu=>by
 have hkl:∀ cs∈css,cs.length=k:=fun cs hcs=>by
  obtain⟨i,hi,rfl⟩:=List.getElem_of_mem hcs;rw[(hr i hi (by omega)).1];exact hk _ (List.getElem_mem _)
 have hj:j<css[i].length:=(List.getElem?_eq_some_iff.1 hu).1;have:=hown.cells (g:=b) (by rw[hv];rfl) (i*k+j) u (by rw[flatten_get hkl i j hi (by rw[←hkl _ (List.getElem_mem hi)];exact hj)];exact hu);rw[Addr.add_mid]at this;simpa using this
theorem Loc.loadE1{T:TypeId}{x:Operand}{id g idx off k:Nat}{e:TypeId}{xs:List (List D)}{cs:List D}{c:D}{n:Nat}(ho:o.op= .load T x)(hx:ev σ x= .e id g idx off)(hO:get? σ.objs id=some (.row g e k xs))[h:Sz P T false n](hi:xs[idx]?=some cs)(hv:cs[off]?=some c):LocR P C o σ (.d c) id:=
 Loc.quiet fun σ' hl β a w hi'=>by
  have h1:=hl.ra hi' (x:=x) (by rw[ho];simp[Op.operands]);rw[hx]at h1;have hO':get? σ'.objs id=some (.row g e k xs):=by rw[hl.rd id (by simp)];exact hO
  obtain⟨b,n,c',hb,hu⟩:=(h1 g e k xs hO').2 rfl;obtain⟨css,hl1,hr1,hk1,hown⟩:=hi'.obj id _ hO';obtain⟨hlt,hxi⟩:=List.getElem?_eq_some_iff.1 hi;have hlt':idx<css.length:=by omega
  have hrr:=hr1 idx hlt' hlt;rw[hxi]at hrr;obtain⟨u,h3,h4⟩:=hrr.at hv;obtain⟨d,hd1,hd2⟩:=h.u;exact⟨u,by unfold execOp;rw[ho];simp[hu,run_loadAt_one hd1 hd2 b (idx*k+off) u w (row_range hl1 hr1 hk1 hown hb idx hlt' off u h3)],h4⟩
theorem Loc.loadEn{T:TypeId}{x:Operand}{id g idx off k:Nat}{e:TypeId}{xs:List (List D)}{cs ds:List D}{n:Nat}(ho:o.op= .load T x)(hx:ev σ x= .e id g idx off)(hO:get? σ.objs id=some (.row g e k xs))[h:Sz P T true n](hi:xs[idx]?=some cs)(hv:(cs.drop off).take n=ds)(hn:ds.length=n):LocR P C o σ (.g ds) id:=
 Loc.quiet fun σ' hl β a w hi'=>by
  have h1:=hl.ra hi' (x:=x) (by rw[ho];simp[Op.operands]);rw[hx]at h1;have hO':get? σ'.objs id=some (.row g e k xs):=by rw[hl.rd id (by simp)];exact hO
  obtain⟨b,n',c',hb,hu⟩:=(h1 g e k xs hO').2 rfl;obtain⟨css,hl1,hr1,hk1,hown⟩:=hi'.obj id _ hO';obtain⟨hlt,hxi⟩:=List.getElem?_eq_some_iff.1 hi;have hlt':idx<css.length:=by omega
  have hrr:=hr1 idx hlt' hlt;rw[hxi]at hrr;obtain⟨d,hd1,hd2⟩:=h.u;have h5:RDs (Dat C β σ'.objs w) w ((css[idx].drop off).take n) ds:=by rw[←hv];exact(hrr.drop off).take n
  have h6:w.rangeAt b (idx*k+off) ((css[idx].drop off).take n):=fun j v hj=>by
   rw[List.getElem?_take]at hj;split at hj
   ·rw[List.getElem?_drop]at hj;rw[Nat.add_assoc];exact row_range hl1 hr1 hk1 hown hb idx hlt' _ v hj
   ·cases hj
  refine⟨.agg ((css[idx].drop off).take n).toArray,by unfold execOp;rw[ho];simp only[hu];rw[Sem.run_bind,run_loadAt_mid w b (idx*k+off) T _ d h6 hd1 hd2 (by rw[h.s,h5.1,hn])];rfl,_,rfl,h5⟩
theorem run_len(T:TypeId){e k by_:Nat}(h:Elem P T e k by_)(a:Option Addr)(l c:Nat)(ty:TypeId)(w:World):(Builtin.len_ #[T] ty #[.slice a l c]).run P w= .ok (.int .i64 (l:Int)) w:=by
 simp[Builtin.len_,run_underlying h.under,goInt]
theorem exec_len{a:Act}{w:World}{x:Operand}{T:TypeId}{u v:Value}(ho:o.op= .call {callee:= .builtin .len,args:= #[x],argTypes:= #[T] })(hu:a.eval x=u)(h:(Builtin.len_ #[T] o.type #[u]).run P w= .ok v w):(execOp a.eval o).run P w= .ok (.value v) w:=by
 unfold execOp;rw[ho];simp only[resolve,invoke,builtin,Sem.run_bind,Sem.run_pure,Result.andThen_ok,List.map_toArray,List.map_cons,List.map_nil,hu,h]
theorem Loc.len{T:TypeId}{x:Operand}{e k by_:Nat}{xs:List (List D)}(ho:o.op= .call {callee:= .builtin .len,args:= #[x],argTypes:= #[T] })(hx:ev σ x= .d (.l xs))[h:Sl P T e k by_]:Loc P C o σ (.d (.v (.int .i64 (xs.length:Int)))):=
 Loc.one (by rw[ho];simp[Op.operands,Call.operands]) hx fun S w β O a h1=>by
  generalize hu:a.eval x=u at h1;cases u with
  | slice ad len cap=>
    obtain⟨hn,_⟩:=RD.cells h1;exact⟨_,exec_len ho hu (run_len T h.e ad len cap _ w),by rw[hn];exact .mk rfl⟩
  | _=>cases h1
theorem Loc.lenM{α:Type}{f:α→List D}{ts:List α}{T:TypeId}{x:Operand}{e k by_:Nat}(ho:o.op= .call {callee:= .builtin .len,args:= #[x],argTypes:= #[T] })(hx:ev σ x= .d (.l (ts.map f)))[h:Sl P T e k by_]:Loc P C o σ (.d (.v (.int .i64 (ts.length:Int)))):=by
 have:=Loc.len (C:=C) ho hx (h:=h);rwa[List.length_map]at this
theorem Loc.lenN{T:TypeId}{x:Operand}{e k by_:Nat}(ho:o.op= .call {callee:= .builtin .len,args:= #[x],argTypes:= #[T] })(hx:ev σ x= .d .n)[h:Sl P T e k by_]:Loc P C o σ (.d (.v (.int .i64 0))):=
 Loc.one (by rw[ho];simp[Op.operands,Call.operands]) hx fun S w β O a h1=>by
  generalize hu:a.eval x=u at h1;cases h1;exact⟨_,exec_len ho hu (run_len T h.e none 0 0 _ w),.mk rfl⟩
theorem Loc.lenR{T:TypeId}{x:Operand}{id g e e' k k' by_:Nat}{xs:List (List D)}(ho:o.op= .call {callee:= .builtin .len,args:= #[x],argTypes:= #[T] })(hx:ev σ x= .r id g)(hO:get? σ.objs id=some (.row g e' k' xs))[h:Sl P T e k by_]:LocR P C o σ (.d (.v (.int .i64 (xs.length:Int)))) id:=
 Loc.quiet fun σ' hl β a w hi'=>by
  have h1:=hl.ra hi' (x:=x) (by rw[ho];simp[Op.operands,Call.operands]);rw[hx]at h1;have hO':get? σ'.objs id=some (.row g e' k' xs):=by rw[hl.rd id (by simp)];exact hO
  have hu:=(h1 g e' k' xs hO').2 rfl;obtain⟨css,hl1,hr1,hk1,hown⟩:=hi'.obj id _ hO';rcases hown.2 with ⟨h0,h3⟩ | ⟨gb,cap,cur,hv,_⟩
  ·rw[h0]at hu;exact⟨_,exec_len ho hu (run_len T h.e none 0 0 _ w),by rw[h3];exact .mk rfl⟩
  ·rw[hv]at hu;exact⟨_,exec_len ho hu (run_len T h.e _ _ cap _ w),.mk rfl⟩
end
theorem putAll_list(vs:List Value):∀ (cs:Array Value) (o:Nat),o+vs.length≤cs.size→(putAll cs o vs).toList=cs.toList.take o++vs++cs.toList.drop (o+vs.length):=by
 induction vs with
 | nil=>intro cs o _;simp[putAll]
 | cons v r ih=>
   intro cs o h;simp only[List.length_cons]at h;rw[putAll,ih _ _ (by simp;omega),Array.toList_setIfInBounds];have e1:(cs.toList.set o v).take (o+1)=cs.toList.take o++[v]:=by
    rw[List.take_add_one,List.getElem?_set_self (by simp;omega),List.take_set_of_le (Nat.le_refl _)];rfl
   have e2:(cs.toList.set o v).drop (o+1+r.length)=cs.toList.drop (o+(r.length+1)):=by
    rw[List.drop_set_of_lt (by omega)]
    congr 1
    omega
   rw[e1,e2];simp
def splice{α:Type}(cs:List α)(o:Nat)(vs:List α):List α:=cs.take o++vs++cs.drop (o+vs.length)
theorem splice_length{α:Type}{cs vs:List α}{o:Nat}(h:o+vs.length≤cs.length):(splice cs o vs).length=cs.length:=by simp[splice];omega
theorem splice_get{α:Type}{cs vs:List α}{o:Nat}(h:o+vs.length≤cs.length)(i:Nat):(splice cs o vs)[i]?=if i<o then cs[i]? else if i<o+vs.length then vs[i-o]? else cs[i]?:=by
 unfold splice;by_cases h1:i<o
 ·rw[if_pos h1,List.append_assoc,List.getElem?_append_left (by simp;omega),List.getElem?_take_of_lt h1]
 ·rw[if_neg h1];by_cases h2:i<o+vs.length
  ·rw[if_pos h2,List.getElem?_append_left (by simp;omega),List.getElem?_append_right (by simp;omega)]
   congr 1
   simp;omega
  ·rw[if_neg h2,List.getElem?_append_right (by simp;omega),List.getElem?_drop]
   congr 1
   simp;omega
section
variable {P:Program}{C:Cx}{o:Oper}{σ:AS}{β:Nat→Value}{a:Act}{w w':World}
def bset(β:Nat→Value)(d:Nat)(v:Value):Nat→Value:=fun i=>if i=d then v else β i
theorem RA.fresh{S S':Nat→Prop}{O:List (Nat×AO)}{u:Value}{x:AV}{d:Nat}{o:AO}{bv:Value}(h:RA S w β O u x)(hn:refsA d x=false)(hs:∀ b,S b→S' b∧w'.heap[b]?=w.heap[b]?):RA S' w' (bset β d bv) ((d,o)::O) u x:=by
 have hne:∀ i,[i].elem d=false→i≠d:=fun i hi e=>by subst e;simp at hi
 cases x with
 | d c=>exact RD.keep h hs
 | g cs=>obtain⟨us,h1,h2⟩:=h;exact⟨us,h1,h2.keep hs⟩
 | t xs=>obtain⟨us,h1,h2,h3⟩:=h;exact⟨us,h1,h2,fun i h h'=>(h3 i h h').keep hs⟩
 | p id off=>
   intro T cs hO;have:=hne id hn;rw[get?_cons,if_neg (Ne.symm this)]at hO;simp only[bset,if_neg this];exact h T cs hO
 | r id g=>
   intro g' e k xs hO;have:=hne id hn;rw[get?_cons,if_neg (Ne.symm this)]at hO;simp only[bset,if_neg this];exact h g' e k xs hO
 | e id g idx off=>
   intro g' e k xs hO;have:=hne id hn;rw[get?_cons,if_neg (Ne.symm this)]at hO;simp only[bset,if_neg this];exact h g' e k xs hO
 | q cs=>obtain⟨b,o,us,h1,h2,h3,h4⟩:=h;exact⟨b,o,us,h1,(hs b h2).1,h3.keep hs,range_keep h4 (hs b h2).2⟩
 | un=>trivial
theorem Inv.fresh(h:Inv C σ β a w)(d:Nat)(hdn:d<C.nt)(hn:NoRef σ d)(o:AO)(hx:Ext w w')(bv:Value)(hblk:∀ b,blk bv=some b→w.heap.size≤b∧b<w'.heap.size)
  (ho:(∀b,Dat C β σ.objs w b→Dat C (bset β d bv) ((d,o)::σ.objs) w' b∧w'.heap[b]?=w.heap[b]?)→RO (Dat C (bset β d bv) ((d,o)::σ.objs) w') w' (bset β d bv) ((d,o)::σ.objs) d o):Inv C ⟨σ.env,(d,o)::σ.objs⟩ (bset β d bv) a w':=by
 have hD:∀ b,Dat C β σ.objs w b→Dat C (bset β d bv) ((d,o)::σ.objs) w' b∧w'.heap[b]?=w.heap[b]?:=fun b hb=>by
  refine⟨⟨hb.1,Nat.lt_of_lt_of_le hb.2.1 hx.size,fun id o' hid=>?_⟩,hx.block b hb.2.1⟩;rw[get?_cons]at hid;by_cases e:d=id
  ·subst e;simp only[bset,if_true];intro e2;have:=(hblk b e2).1;have:=hb.2.1;omega
  ·rw[if_neg e]at hid;simp only[bset,if_neg (Ne.symm e)];exact hb.2.2 id o' hid
 refine⟨h.defs,h.nt,hx.os.trans h.os,hx.tape.trans h.tape,hx.output.trans h.output,Nat.le_trans h.size hx.size,fun b hb hm=>(hx.block b (Nat.lt_of_lt_of_le hb h.size)).trans (h.fr b hb hm),fun t v ht=>?_,fun id o' hid=>?_,?_,?_,fun i x o2 h1 h2 h3=>?_⟩
 ·obtain⟨u,h1,h2⟩:=h.env t v ht;exact⟨u,h1,h2.fresh (hn.env t v ht) hD⟩
 ·rw[get?_cons]at hid;by_cases e:d=id
  ·subst e;rw[if_pos rfl]at hid;cases hid;exact ho hD
  ·rw[if_neg e]at hid;obtain⟨_,hr⟩:=hn.obj id o' hid;have h1:=h.obj id o' hid;have hb:∀ b,blk (β id)=some b→w'.heap[b]?=w.heap[b]?:=fun b hb=>hx.block b (h.own id o' b hid hb).2;cases o' with
   | box T cs=>
     obtain⟨b,us,q1,q2,q3,q4,q5⟩:=h1;refine⟨b,us,by simpa only[bset,if_neg (Ne.symm e)] using q1,by rw[hb b (by rw[q1];rfl)];exact q2,q3,q4,fun i h h'=>(q5 i h h').fresh ?_ hD⟩;cases er:refsA d cs[i]with
     | false=>rfl
     | true=>
       have:d∈refsOL (.box T cs):=List.mem_flatMap.2 ⟨_,List.getElem_mem h',by unfold refsA at er;simpa using er⟩;unfold refsO at hr;rw[List.elem_eq_true_of_mem this]at hr;cases hr
   | row g e' k xs=>
     obtain⟨css,q1,q2,q3,q4⟩:=h1;refine⟨css,q1,fun i h h'=>(q2 i h h').keep hD,q3,?_⟩;simp only[bset,if_neg (Ne.symm e)];exact ownsRow_ext q4 hb
   | dead=>trivial
   | own x R=>exact⟨by simpa only[bset,if_neg (Ne.symm e)] using h1.1,h1.2.2 _ _ _ _ h1.2.1 hD fun b hb'=>hb b (by rw[h1.1];exact hb'),h1.2.2⟩
 ·intro i j oi oj b hi hj hbi hbj;rw[get?_cons]at hi hj;simp only[bset]at hbi hbj;by_cases e1:d=i
  ·by_cases e2:d=j
   ·rw[←e1,←e2]
   ·rw[if_pos e1.symm]at hbi;rw[if_neg e2]at hj;rw[if_neg (Ne.symm e2)]at hbj;have:=(hblk b hbi).1;have:=(h.own j oj b hj hbj).2;omega
  ·rw[if_neg e1]at hi;rw[if_neg (Ne.symm e1)]at hbi;by_cases e2:d=j
   ·rw[if_pos e2.symm]at hbj;have:=(hblk b hbj).1;have:=(h.own i oi b hi hbi).2;omega
   ·rw[if_neg e2]at hj;rw[if_neg (Ne.symm e2)]at hbj;exact h.dis i j oi oj b hi hj hbi hbj
 ·intro i oi b hi hbi;rw[get?_cons]at hi;simp only[bset]at hbi;by_cases e1:d=i
  ·rw[if_pos e1.symm]at hbi;have h1:=hblk b hbi;exact⟨.inr (Nat.le_trans h.size h1.1),h1.2⟩
  ·rw[if_neg e1]at hi;rw[if_neg (Ne.symm e1)]at hbi;have h1:=h.own i oi b hi hbi;exact⟨h1.1,Nat.lt_of_lt_of_le h1.2 hx.size⟩
 ·rw[get?_cons,if_neg (by omega)]at h2;simp only[bset,if_neg (show ¬C.nt+i=d by omega)];exact h.pin i x o2 h1 h2 h3
def Compat(bv bv':Value):AO→AO→Prop
 | .box ..,.box .. =>bv'=bv
 | .row g _ k _,.row g' _ k' _=>g≤g'∧(g=g'→k=k'∧bv'=bv)
 | .own ..,.own .. =>True
 | _,_=>False
theorem Inv.upd(h:Inv C σ β a w)(id:Nat)(o0 o':AO)(hO:get? σ.objs id=some o0)(bv:Value)(hos:w'.os=w.os)(htape:w'.tape=w.tape)(hout:w'.output=w.output)(hsz:w.heap.size≤w'.heap.size)
  (hblock:∀ k,k<w.heap.size→blk (β id)≠some k→w'.heap[k]?=w.heap[k]?) (hbv:∀ b,blk bv=some b→(blk (β id)=some b∨w.heap.size≤b)∧b<w'.heap.size) (hc:Compat (β id) bv o0 o')
  (ho:(∀b,Dat C β σ.objs w b→Dat C (bset β id bv) ((id,o')::σ.objs) w' b∧w'.heap[b]?=w.heap[b]?)→(∀{u:Value} {x:AV},RA (Dat C β σ.objs w) w β σ.objs u x→RA (Dat C (bset β id bv) ((id,o')::σ.objs) w') w' (bset β id bv) ((id,o')::σ.objs) u x)→
    RO (Dat C (bset β id bv) ((id,o')::σ.objs) w') w' (bset β id bv) ((id,o')::σ.objs) id o'):Inv C ⟨σ.env,(id,o')::σ.objs⟩ (bset β id bv) a w':=by
 have hD:∀ b,Dat C β σ.objs w b→Dat C (bset β id bv) ((id,o')::σ.objs) w' b∧w'.heap[b]?=w.heap[b]?:=fun b hb=>by
  refine⟨⟨hb.1,Nat.lt_of_lt_of_le hb.2.1 hsz,fun i oi hid=>?_⟩,hblock b hb.2.1 (hb.2.2 id o0 hO)⟩;rw[get?_cons]at hid;by_cases e:id=i
  ·subst e;simp only[bset,if_true];intro e2;rcases (hbv b e2).1 with h1 | h1
   ·exact hb.2.2 id o0 hO h1
   ·have:=hb.2.1;omega
  ·rw[if_neg e]at hid;simp only[bset,if_neg (Ne.symm e)];exact hb.2.2 i oi hid
 have hA:∀ {u:Value} {x:AV},RA (Dat C β σ.objs w) w β σ.objs u x→RA (Dat C (bset β id bv) ((id,o')::σ.objs) w') w' (bset β id bv) ((id,o')::σ.objs) u x:=by
  intro u x hu;refine hu.keep hD (fun i T cs hi=>?_) (fun i g e k xs hi=>?_)
  ·rw[get?_cons]at hi;by_cases e:id=i
   ·subst e;rw[if_pos rfl]at hi;cases hi;cases o0 with
    | box T0 cs0=>exact⟨⟨T0,cs0,hO⟩,by simp only[bset,if_true];exact hc⟩
    | row=>exact hc.elim
    | dead=>exact hc.elim
    | own=>exact hc.elim
   ·rw[if_neg e]at hi;exact⟨⟨T,cs,hi⟩,by simp only[bset,if_neg (Ne.symm e)]⟩
  ·rw[get?_cons]at hi;by_cases e:id=i
   ·subst e;rw[if_pos rfl]at hi;cases hi;cases o0 with
    | box T0 cs0=>exact hc.elim
    | dead=>exact hc.elim
    | own=>exact hc.elim
    | row g0 e0 k0 xs0=>exact⟨g0,e0,k0,xs0,hO,hc.1,fun hg=>by simp only[bset,if_true];exact hc.2 hg⟩
   ·rw[if_neg e]at hi;exact⟨g,_,k,xs,hi,Nat.le_refl _,fun _=>⟨rfl,by simp only[bset,if_neg (Ne.symm e)]⟩⟩
 refine⟨h.defs,h.nt,hos.trans h.os,htape.trans h.tape,hout.trans h.output,Nat.le_trans h.size hsz,fun b hb hm=>?_,fun t v ht=>?_,fun i oi hid=>?_,?_,?_,fun i x o2 h1 h2 h3=>?_⟩
 ·refine(hblock b (Nat.lt_of_lt_of_le hb h.size) fun e=>?_).trans (h.fr b hb hm);rcases (h.own id o0 b hO e).1 with h1 | h1
  ·exact hm h1
  ·omega
 ·obtain⟨u,h1,h2⟩:=h.env t v ht;exact⟨u,h1,hA h2⟩
 ·rw[get?_cons]at hid;by_cases e:id=i
  ·subst e;rw[if_pos rfl]at hid;cases hid;exact ho hD hA
  ·rw[if_neg e]at hid;have h1:=h.obj i oi hid;have hb:∀ b,blk (β i)=some b→w'.heap[b]?=w.heap[b]?:=fun b hb=>hblock b (h.own i oi b hid hb).2 (fun e2=>e (h.dis id i o0 oi b hO hid e2 hb));cases oi with
   | box T cs=>
     obtain⟨b,us,q1,q2,q3,q4,q5⟩:=h1;exact⟨b,us,by simpa only[bset,if_neg (Ne.symm e)] using q1,by rw[hb b (by rw[q1];rfl)];exact q2,q3,q4,fun i h h'=>hA (q5 i h h')⟩
   | row g e' k xs=>
     obtain⟨css,q1,q2,q3,q4⟩:=h1;refine⟨css,q1,fun i h h'=>(q2 i h h').keep hD,q3,?_⟩;simp only[bset,if_neg (Ne.symm e)];exact ownsRow_ext q4 hb
   | dead=>trivial
   | own x R=>exact⟨by simpa only[bset,if_neg (Ne.symm e)] using h1.1,h1.2.2 _ _ _ _ h1.2.1 hD fun b hb'=>hb b (by rw[h1.1];exact hb'),h1.2.2⟩
 ·intro i j oi oj b hi hj hbi hbj;rw[get?_cons]at hi hj;simp only[bset]at hbi hbj;have other:∀ j oj,id≠j→get? σ.objs j=some oj→blk bv=some b→blk (β j)=some b→False:=fun j oj hne hj hb1 hb2=>by
   rcases (hbv b hb1).1 with h1 | h1
   ·exact hne (h.dis id j o0 oj b hO hj h1 hb2)
   ·have:=(h.own j oj b hj hb2).2;omega
  by_cases e1:id=i
  ·by_cases e2:id=j
   ·rw[←e1,←e2]
   ·rw[if_pos e1.symm]at hbi;rw[if_neg e2]at hj;rw[if_neg (Ne.symm e2)]at hbj;exact(other j oj e2 hj hbi hbj).elim
  ·rw[if_neg e1]at hi;rw[if_neg (Ne.symm e1)]at hbi;by_cases e2:id=j
   ·rw[if_pos e2.symm]at hbj;exact(other i oi e1 hi hbj hbi).elim
   ·rw[if_neg e2]at hj;rw[if_neg (Ne.symm e2)]at hbj;exact h.dis i j oi oj b hi hj hbi hbj
 ·intro i oi b hi hbi;rw[get?_cons]at hi;simp only[bset]at hbi;by_cases e1:id=i
  ·rw[if_pos e1.symm]at hbi;refine⟨?_,(hbv b hbi).2⟩;rcases (hbv b hbi).1 with h1 | h1
   ·exact(h.own id o0 b hO h1).1
   ·exact .inr (Nat.le_trans h.size h1)
  ·rw[if_neg e1]at hi;rw[if_neg (Ne.symm e1)]at hbi;have h1:=h.own i oi b hi hbi;exact⟨h1.1,Nat.lt_of_lt_of_le h1.2 hsz⟩
 ·rw[get?_cons]at h2;by_cases e:id=C.nt+i
  ·rw[if_pos e]at h2;cases h2;subst e;simp only[bset,if_true];have h5:∀ o0,get? σ.objs (C.nt+i)=some o0→still o0=true→bv=β (C.nt+i)→bv=x:=fun o0 q1 q2 q3=>q3.trans (h.pin i x o0 h1 q1 q2);cases o0 with
   | box T0 cs0=>
     cases o' with
     | box=>exact h5 _ hO rfl hc
     | row=>exact hc.elim
     | dead=>exact hc.elim
     | own=>exact hc.elim
   | row g0 e0 k0 xs0=>
     cases o' with
     | row g' e' k' xs'=>
       have hg:g'=0:=Nat.eq_of_beq_eq_true h3;have hg0:g0=0:=by have:=hc.1;omega
       exact h5 _ hO (by rw[hg0];rfl) (hc.2 (by omega)).2
     | box=>exact hc.elim
     | dead=>exact hc.elim
     | own=>exact hc.elim
   | own x0 R0=>
     cases o' with
     | own=>cases h3
     | box=>exact hc.elim
     | row=>exact hc.elim
     | dead=>exact hc.elim
   | dead=>exact hc.elim
  ·rw[if_neg e]at h2;simp only[bset,if_neg (Ne.symm e)];exact h.pin i x o2 h1 h2 h3
end
inductive CV (O:List (Nat×AO)):AV→List AV→Prop
 | d {c:D}:CV O (.d c) [.d c]
 | g {cs:List D}:CV O (.g cs) (cs.map .d)
 | r {id g:Nat} {e:TypeId} {k:Nat} {xs:List (List D)} (h:get? O id=some (.row g e k xs)):CV O (.r id g) [.r id g]
 | p {id off:Nat} {T:TypeId} {cs:List AV} (h:get? O id=some (.box T cs)):CV O (.p id off) [.p id off]
section
variable {P:Program}{C:Cx}{o:Oper}{σ:AS}{β:Nat→Value}{a:Act}{w w':World}
theorem cells_one{u:Value}(h:u.oneCell'=true):u.cells= #[u]:=by cases u<;>first | rfl | cases h
theorem row_shape{e:TypeId}{k n:Nat}{v:Value}{xs:List Value}(h:w.ownsRow 0 e k v n xs):v.oneCell'=true∧∃ a c,v= .slice a n c∧n≤c∧c≤maxLen:=by
 rcases h.2 with ⟨h0,h1⟩ | ⟨g,cap,cur,hv,hb,hg,h1,h2,_⟩
 ·rw[h0];exact⟨rfl,none,0,by rw[h1],by omega,by simp[maxLen]⟩
 ·rw[hv];exact⟨rfl,_,cap,rfl,h1,h2⟩
theorem CV.out{S:Nat→Prop}{O:List (Nat×AO)}{v:AV}{vs:List AV}(h:CV O v vs)(hO:∀ id o,get? O id=some o→RO S w β O id o){u:Value}(hu:RA S w β O u v):
  ∃us:List Value,u.cells=us.toArray∧us.length=vs.length∧(∀x∈us,x.oneCell'=true)∧∀ i (h:i<us.length) (h':i<vs.length),RA S w β O us[i] vs[i]:=by
 have one:∀ v:AV,u.oneCell'=true→RA S w β O u v→∃ us:List Value,u.cells=us.toArray∧us.length=[v].length∧(∀x∈us,x.oneCell'=true)∧∀ i (h:i<us.length) (h':i<[v].length),RA S w β O us[i] [v][i]:=fun v h1 h2=>
  ⟨[u],by rw[cells_one h1],rfl,by simpa using h1,fun i h h'=>by
   have:i=0:=by simpa using h
   subst this;exact h2⟩
 cases h with
 | d=>exact one _ (RD.one hu) hu
 | g=>
   obtain⟨us,rfl,h2⟩:=hu;refine⟨us,rfl,by simp[h2.1],h2.one,fun i h h'=>?_⟩;simp only[List.getElem_map];exact h2.2 i h (by rw[←h2.1];exact h)
 | r h=>
   obtain⟨css,h1,h2,h3,h4⟩:=hO _ _ h;have:=(hu _ _ _ _ h).2 rfl;exact one _ (by rw[this];exact(row_shape h4).1) hu
 | p h=>
   obtain⟨b,h1,h2⟩:=hu _ _ h;exact one _ (by rw[h2];rfl) hu
theorem CV.like{σ':AS}{f:Fx}{v:AV}{vs:List AV}(hl:Like o σ σ' f)(hf:∀ id,id∈refsL v→id∈f.R)(h:CV σ.objs v vs):CV σ'.objs v vs:=by
 cases h with
 | d=>exact .d
 | g=>exact .g
 | r h=>exact .r (by rw[hl.rd _ (hf _ (by simp[refsL]))];exact h)
 | p h=>exact .p (by rw[hl.rd _ (hf _ (by simp[refsL]))];exact h)
def constAVs(zs:List Value):List AV:=zs.map fun v=>match constD v with
 | some d=> .d d
 | none=> .un
theorem constAVs_sound{S:Nat→Prop}{O:List (Nat×AO)}(zs:List Value)(i:Nat)(h:i<zs.length)(h':i<(constAVs zs).length):RA S w β O zs[i] (constAVs zs)[i]:=by
 simp only[constAVs,List.getElem_map];split
 ·rename_i d hd;exact constD_sound hd
 ·trivial
theorem Inv.box(h:Inv C σ β a w)(d:Nat)(hn:NoRef σ d)(hd:d<C.nt)(T:TypeId)(us:List Value)(vs:List AV)(hl:us.length=vs.length)(h1:∀ x∈us,x.oneCell'=true)
  (hr:∀ {S':Nat→Prop} {w':World} {β':Nat→Value},(∀b,Dat C β σ.objs w b→S' b∧w'.heap[b]?=w.heap[b]?)→(∀{u:Value} {x:AV},refsA d x=false→RA (Dat C β σ.objs w) w β σ.objs u x→RA S' w' β' ((d,.box T vs)::σ.objs) u x)→∀ i (h:i<us.length) (h':i<vs.length),RA S' w' β' ((d,.box T vs)::σ.objs) us[i] vs[i]):
  Inv C ⟨(d,.p d 0)::σ.env,(d,.box T vs)::σ.objs⟩ (bset β d (.pointer (some ⟨w.heap.size,0,none⟩))) (a.put (some d) (.pointer (some ⟨w.heap.size,0,none⟩))) (w.alloc (.cells us.toArray T)):=by
 have hx:Ext w (w.alloc (.cells us.toArray T)):=(Below.refl _ _).al _;have:=Inv.put (h.fresh d hd hn (.box T vs) hx (.pointer (some ⟨w.heap.size,0,none⟩)) (fun b hb=>by cases hb;exact⟨Nat.le_refl _,by simp⟩) (fun hD=>?_)) (some d) (fun t ht=>by cases ht;exact hd) (v:= .p d 0) (u:= .pointer (some ⟨w.heap.size,0,none⟩)) ?_
 ·exact this
 ·refine⟨w.heap.size,us,by simp[bset],heap_alloc_new w _,hl,h1,?_⟩;exact hr hD (fun h1 h2=>h2.fresh h1 hD)
 ·intro T' cs hO;exact⟨_,by simp[bset],rfl⟩
theorem Do.alloc{T:TypeId}{d:Nat}{zs:List Value}(ho:o.op= .alloc T)(hd:o.dst=some d)[h:Zr P T zs](h1:(zs.all fun v=>v.oneCell')=true):Do P C o σ (.p d 0) ⟨[],[],[(d,.box T (constAVs zs))],some d⟩:=by
 intro σ' hl hdst a w K Q' ⟨β,hi⟩ hk;obtain⟨i,z,h2,h3,h4⟩:=h.z;have hr:(execOp a.eval o).run P w= .ok (.value (.pointer (some ⟨w.heap.size,0,none⟩))) (w.alloc (.cells zs.toArray T)):=by
  unfold execOp;rw[ho];have:z.cells=zs.toArray:=by rw[←h4]
  simp[Instr.alloc,zeroValue,typeInfo,h2,h3,newVar,newRow,this]
 unfold Oper.wp;rw[hr];refine hk _ _ ⟨bset β d (.pointer (some ⟨w.heap.size,0,none⟩)),?_⟩;rw[hd];exact hi.box d (hl.new d rfl) (dstOK.out hdst d hd) T zs _ (by simp[constAVs]) (List.all_eq_true.1 h1) fun _ _ i h h'=>constAVs_sound zs i h h'
theorem CV.refs{O:List (Nat×AO)}{v:AV}{vs:List AV}(h:CV O v vs){d:Nat}(hd:refsA d v=false):∀ x∈vs,refsA d x=false:=by
 cases h with
 | d=>intro x hx;simp at hx;subst hx;rfl
 | g=>intro x hx;obtain⟨y,_,rfl⟩:=List.mem_map.1 hx;rfl
 | r h=>intro x hx;simp at hx;subst hx;exact hd
 | p h=>intro x hx;simp at hx;subst hx;exact hd
theorem Do.box{T:TypeId}{x:Operand}{d:Nat}{v:AV}{vs:List AV}(ho:o.op= .box T x)(hd:o.dst=some d)(hx:ev σ x=v)(hc:CV σ.objs v vs)(hnr:refsA d v=false):Do P C o σ (.p d 0) ⟨refsL v,[],[(d,.box T vs)],some d⟩:=by
 intro σ' hl hdst a w K Q' ⟨β,hi⟩ hk;have h1:=hl.ra hi (x:=x) (by rw[ho];simp[Op.operands]);rw[hx]at h1;have hc':=hc.like hl (fun id h=>h);obtain⟨us,h2,h3,h4,h5⟩:=hc'.out hi.obj h1;have hr:(execOp a.eval o).run P w= .ok (.value (.pointer (some ⟨w.heap.size,0,none⟩))) (w.alloc (.cells us.toArray T)):=by
  unfold execOp;rw[ho];simp[Instr.box,newVar,newRow,h2]
 unfold Oper.wp;rw[hr];refine hk _ _ ⟨bset β d (.pointer (some ⟨w.heap.size,0,none⟩)),?_⟩;rw[hd];exact hi.box d (hl.new d rfl) (dstOK.out hdst d hd) T us vs h3 h4 fun _ hA i h h'=>hA (hc'.refs hnr _ (List.getElem_mem h')) (h5 i h h')
theorem run_storeAt_cells{T:TypeId}{ag:Bool}{k:Nat}(h:Sz P T ag k)(b o:Nat)(u:Value)(us:List Value)(hu:u.cells=us.toArray)(hl:us.length=k)(h1:∀ x∈us,x.oneCell'=true)(ht:w.there b o us.length):
  (Instr.storeAt T (.pointer (some ⟨b,o,none⟩)) u).run P w= .ok () (w.setCells b o us):=by
 have:=run_storeCells_cells (P:=P) b o us 0 w (fun j hj=>by simpa using (ht j hj).1) (fun j hj=>by simpa using (ht j hj).2) h1;obtain⟨i,h2,h3⟩:=Option.map_eq_some_iff.1 h.s;simp only[Nat.add_zero]at this;simp[Instr.storeAt,Instr.sureAddr,storeVar,sizeOf,typeInfo,h2,h3,hu,hl,this]
theorem Do.storeP{T:TypeId}{x y:Operand}{id off:Nat}{T':TypeId}{cs:List AV}{v:AV}{vs:List AV}{ag:Bool}{k:Nat}(ho:o.op= .store T x y)(hx:ev σ x= .p id off)(hO:get? σ.objs id=some (.box T' cs))(hy:ev σ y=v)(hc:CV σ.objs v vs)[h:Sz P T ag k](hk:vs.length=k)(hle:Nat.ble (off+k) cs.length=true)(hd:o.dst=none):
  Do P C o σ .un ⟨id::refsL v,[],[(id,.box T' (splice cs off vs))],none⟩:=by
 intro σ' hl hdst a w K Q' ⟨β,hi⟩ hK;have h1:=hl.ra hi (x:=x) (by rw[ho];simp[Op.operands]);rw[hx]at h1;replace hO:get? σ'.objs id=some (.box T' cs):=by rw[hl.rd id (by simp)];exact hO
 replace hc:=hc.like hl (fun id h=>by simp[h]);obtain⟨b,hb,hu⟩:=h1 T' cs hO;have h2:=hl.ra hi (x:=y) (by rw[ho];simp[Op.operands]);rw[hy]at h2;obtain⟨us,q2,q3,q4,q5⟩:=hc.out hi.obj h2;obtain⟨b',old,hb',hh,hlen,hone,hr⟩:=hi.obj id _ hO;rw[hb]at hb';cases hb';rw[Nat.ble_eq]at hle;have hle':off+us.length≤old.length:=by omega
 have ht:w.there b off us.length:=fun j hj=>by
  have:off+j<old.length:=by omega
  simp[World.cell?,World.frozen?,hh,this]
 have hrun:(execOp a.eval o).run P w= .ok .skip (w.setCells b off us):=by
  unfold execOp;rw[ho];simp[hu,run_storeAt_cells h b off _ us q2 (by omega) q4 ht]
 unfold Oper.wp;rw[hrun];have hg:=grownBy_setCells b us off w;have hself:=heap_setCells_self b T' (0,0) us old.toArray off w hh;have hlist:=putAll_list us old.toArray off (by simpa using hle');refine hK _ _ ⟨bset β id (β id),?_⟩;rw[hd];refine hi.upd id (.box T' cs) (.box T' (splice cs off vs)) hO (β id) hg.os hg.tape hg.output hg.size (fun k hk hne=>hg.block k hk fun e=>hne (by rw[hb];simp at e;rw[e];rfl)) (fun b2 h2=>⟨.inl h2,Nat.lt_of_lt_of_le (hi.own id _ b2 hO h2).2 hg.size⟩) rfl fun hD hA=>?_;refine⟨b,splice old off us,by simp[bset,hb],?_,by rw[splice_length hle',splice_length (by omega)];exact hlen,?_,fun i h h'=>?_⟩
 ·rw[hself]
  congr 2
  apply Array.ext';rw[hlist];simp[splice]
 ·intro u hu;simp only[splice,List.mem_append]at hu;rcases hu with (hu | hu) | hu
  ·exact hone u (List.mem_of_mem_take hu)
  ·exact q4 u hu
  ·exact hone u (List.mem_of_mem_drop hu)
 ·have e1:=splice_get hle' i;have e2:=splice_get (cs:=cs) (vs:=vs) (o:=off) (by omega) i;rw[List.getElem?_eq_getElem h]at e1;rw[List.getElem?_eq_getElem h']at e2;have hi1:i<old.length:=by rw[splice_length hle']at h;exact h
  have hi2:i<cs.length:=by omega
  have hl2:us.length=vs.length:=q3;rw[←hl2]at e2;by_cases c1:i<off
  ·rw[if_pos c1,List.getElem?_eq_getElem hi1]at e1;rw[if_pos c1,List.getElem?_eq_getElem hi2]at e2;injection e1 with e1;injection e2 with e2;rw[e1,e2];exact hA (hr i hi1 hi2)
  ·rw[if_neg c1]at e1 e2;by_cases c2:i<off+us.length
   ·rw[if_pos c2,List.getElem?_eq_getElem (by omega)]at e1;rw[if_pos c2,List.getElem?_eq_getElem (by omega)]at e2;injection e1 with e1;injection e2 with e2;rw[e1,e2];exact hA (q5 _ (by omega) (by omega))
   ·rw[if_neg c2,List.getElem?_eq_getElem hi1]at e1;rw[if_neg c2,List.getElem?_eq_getElem hi2]at e2;injection e1 with e1;injection e2 with e2;rw[e1,e2];exact hA (hr i hi1 hi2)
theorem exec_append{x s:Operand}{T T':TypeId}{u v vx:Value}(ho:o.op= .call {callee:= .builtin .append,args:= #[s,x],argTypes:= #[T,T'] })(hs:a.eval s=u)(hx:a.eval x=vx)(h:(Builtin.append_ #[T,T'] o.type #[u,vx]).run P w= .ok v w'):(execOp a.eval o).run P w= .ok (.value v) w':=by
 unfold execOp;rw[ho];simp only[resolve,invoke,builtin,Sem.run_bind,Sem.run_pure,Result.andThen_ok,List.map_toArray,List.map_cons,List.map_nil,hs,hx,h]
theorem flat_len{S:Nat→Prop}{css:List (List Value)}{xs:List (List D)}{k:Nat}(hl:css.length=xs.length)(hr:∀ i (h:i<css.length) (h':i<xs.length),RDs S w css[i] xs[i])(hk:∀ x∈xs,x.length=k):∀ cs∈css,cs.length=k:=fun cs hcs=>by
 obtain⟨i,hi,rfl⟩:=List.getElem_of_mem hcs;rw[(hr i hi (by omega)).1];exact hk _ (List.getElem_mem _)
theorem RD.src{S:Nat→Prop}{T e k:Nat}{u:Value}{ys:List (List D)}(h:RD S w u (.l ys))(hT:P.underlying T=some (.slice e))(hk:∀ y∈ys,y.length=k):
  ∃css:List (List Value),css.length=ys.length∧(∀i (h:i<css.length) (h':i<ys.length),RDs S w css[i] ys[i])∧Src P k T u ys.length css.flatten w:=by
 cases u with
 | slice ad n c=>
   obtain⟨hn,hc,hm,k',css,hl,hk',hr,ha⟩:=RD.cells h;have hfl:=flat_len hl hr hk;refine⟨css,hl,hr,?_⟩;have hone:∀ v∈css.flatten,v.oneCell'=true:=fun v hv=>by
    obtain⟨cs,h1,h2⟩:=List.mem_flatten.1 hv;obtain⟨i,hi,rfl⟩:=List.getElem_of_mem h1;exact(hr i hi (by omega)).one v h2
   have hlen:css.flatten.length=n*k:=by rw[flatten_len hfl,hl,hn]
   rw[←hn];rcases Nat.eq_zero_or_pos n with h0 | h0
   ·have hnil:css.flatten=[]:=List.eq_nil_of_length_eq_zero (by rw[hlen,h0];simp);rw[hnil,h0];cases ad with
    | none=>exact Src.ofNil _ hT c
    | some ad=>exact Src.ofSlice _ hT ad 0 c [] (by simp) (fun j u hj=>by simp at hj) (by simp)
   ·obtain⟨b,off,rfl,hb,hcells⟩:=ha h0;have hkk:k'=k:=by rw[←hk' 0 (by omega)];exact hk _ (List.getElem_mem _)
    subst hkk;refine Src.ofSlice _ hT _ n c _ hlen (fun j v hj=>?_) hone;have hjl:j<css.flatten.length:=(List.getElem?_eq_some_iff.1 hj).1;rw[hlen]at hjl;have hkp:0<k':=by
     rcases Nat.eq_zero_or_pos k' with h | h
     ·rw[h]at hjl;simp at hjl
     ·exact h
    have hi:j / k'<css.length:=by rw[hl,←hn];exact Nat.div_lt_of_lt_mul (by rw[Nat.mul_comm];exact hjl)
    have hm':j % k'<k':=Nat.mod_lt _ hkp;have hd:j / k'*k'+j % k'=j:=by rw[Nat.mul_comm];exact Nat.div_add_mod j k'
    have h4:=flatten_get hfl (j / k') (j % k') hi hm';rw[hd,hj]at h4;have:=hcells (j / k') hi (j % k') v h4.symm;rw[Addr.add_mid,←this]
    congr 2
    omega
 | _=>cases h
theorem RO.grown{S S':Nat→Prop}{O':List (Nat×AO)}{β':Nat→Value}{id g':Nat}{e:TypeId}{k:Nat}{xs ys:List (List D)}{css dss:List (List Value)}(h1:css.length=xs.length)(h2:∀ i (h:i<css.length) (h':i<xs.length),RDs S w css[i] xs[i])(h3:∀ x∈xs,x.length=k)
  (q1:dss.length=ys.length) (q2:∀ i (h:i<dss.length) (h':i<ys.length),RDs S w dss[i] ys[i]) (q3:∀ y∈ys,y.length=k) (hD:∀ b,S b→S' b∧w'.heap[b]?=w.heap[b]?) (hown:w'.ownsRow 0 e k (β' id) (xs.length+ys.length) (css.flatten++dss.flatten)):
  RO S' w' β' O' id (.row g' e k (xs++ys)):=by
 refine⟨css++dss,by simp[h1,q1],fun i h h'=>?_,fun x hx=>?_,by rw[List.length_append,List.flatten_append];exact hown⟩
 ·by_cases hi:i<css.length
  ·rw[List.getElem_append_left hi,List.getElem_append_left (by omega)];exact(h2 i hi (by omega)).keep hD
  ·rw[List.getElem_append_right (by omega),List.getElem_append_right (by omega)];simp only[h1];exact(q2 _ (by simp at h;omega) (by simp at h';omega)).keep hD
 ·rcases List.mem_append.1 hx with h | h
  ·exact h3 x h
  ·exact q3 x h
theorem blk_own{v:Value}{e:TypeId}{k n:Nat}{xs:List Value}(h:w.ownsRow 0 e k v n xs):blk v=v.ownBlock:=by
 obtain⟨_,a,c,hv,_⟩:=row_shape h;rw[hv];cases a<;>rfl
theorem Do.append{s x:Operand}{T T':TypeId}{id g d:Nat}{e:TypeId}{k bytes:Nat}{xs ys:List (List D)}(ho:o.op= .call {callee:= .builtin .append,args:= #[s,x],argTypes:= #[T,T'] })(hd:o.dst=some d)(hs:ev σ s= .r id g)(hO:get? σ.objs id=some (.row g e k xs))(hx:ev σ x= .d (.l ys))
  [h:Sl P T e k bytes] {e' k' by':Nat} [h':Sl P T' e' k' by'] (hk:∀ y∈ys,y.length=k) (hb:(xs.length+ys.length)*bytes≤140737488355328):
  Do P C o σ (.r id (g+1)) ⟨[id],[],[(id,.row (g+1) e k (xs++ys))],none⟩:=by
 intro σ' hl hdst a w K Q' ⟨β,hi⟩ hK;have hs1:=hl.ra hi (x:=s) (by rw[ho];simp[Op.operands,Call.operands]);rw[hs]at hs1;replace hO:get? σ'.objs id=some (.row g e k xs):=by rw[hl.rd id (by simp)];exact hO
 have hx1:=hl.ra hi (x:=x) (by rw[ho];simp[Op.operands,Call.operands]);rw[hx]at hx1;have hu:=(hs1 g e k xs hO).2 rfl;obtain⟨css,h1,h2,h3,hown⟩:=hi.obj id _ hO;obtain⟨dss,q1,q2,hsrc⟩:=RD.src hx1 h'.e.under hk;obtain⟨i,z,hinf,hz,hsize,hby,hzs⟩:=h.e.info;have hlen63:xs.length+ys.length≤9223372036854775807:=by
  have:=Nat.le_mul_of_pos_right (xs.length+ys.length) h.e.pos;omega
 obtain⟨v',w',hr,r1,r2,r3⟩:=append_own_src (P:=P) w 0 T T' o.type e i z k bytes h.e.under hinf hz hsize hby hzs (β id) xs.length css.flatten hown _ ys.length dss.flatten hsrc hlen63 hb (Nat.zero_le _);have hblk:=blk_own hown;have hblk':=blk_own r1;unfold Oper.wp;rw[exec_append ho hu rfl hr];refine hK _ _ ⟨bset β id v',?_⟩;rw[hd];have:=Inv.put (hi.upd (w':=w') id (.row g e k xs) (.row (g+1) e k (xs++ys)) hO v' r2.os r2.tape r2.output r2.size (fun k hk hne=>r2.block k hk fun e=>hne (by rw[hblk,←e])) (fun b hb=>?_) ⟨by omega,fun h=>absurd h (by omega)⟩ (fun hD _=>?_)) (some d) (fun t ht=>by cases ht;exact dstOK.out hdst d hd) (v:= .r id (g+1)) (u:=v') ?_
 ·exact this
 ·rw[hblk']at hb;have hlt:=r1.lt b hb;refine⟨?_,hlt.2⟩;rcases r3 b hb with h4 | h4
  ·left;rw[hblk];exact h4
  ·right;omega
 ·refine RO.grown (id:=id) h1 h2 h3 q1 q2 hk hD ?_;simpa only[bset,if_true] using r1
 ·intro g' e2 k2 xs2 h4;rw[get?_cons,if_pos rfl]at h4;cases h4;exact⟨Nat.le_refl _,fun _=>by simp[bset]⟩
theorem Do.appendN{s x:Operand}{T T':TypeId}{d:Nat}{e:TypeId}{k bytes:Nat}{ys:List (List D)}(ho:o.op= .call {callee:= .builtin .append,args:= #[s,x],argTypes:= #[T,T'] })(hd:o.dst=some d)(hs:ev σ s= .d .n)(hx:ev σ x= .d (.l ys))
  [h:Sl P T e k bytes] {e' k' by':Nat} [h':Sl P T' e' k' by'] (hk:∀ y∈ys,y.length=k) (hb:ys.length*bytes≤140737488355328):
  Do P C o σ (.r d 0) ⟨[],[],[(d,.row 0 e k ys)],some d⟩:=by
 intro σ' hl hdst a w K Q' ⟨β,hi⟩ hK;have hn:=hl.new d rfl;have hs1:=hl.ra hi (x:=s) (by rw[ho];simp[Op.operands,Call.operands]);rw[hs]at hs1;have hx1:=hl.ra hi (x:=x) (by rw[ho];simp[Op.operands,Call.operands]);rw[hx]at hx1;have hu:a.eval s= .slice none 0 0:=by
  generalize a.eval s=u at hs1;cases hs1;rfl
 obtain⟨dss,q1,q2,hsrc⟩:=RD.src hx1 h'.e.under hk;obtain⟨i,z,hinf,hz,hsize,hby,hzs⟩:=h.e.info;have hlen63:0+ys.length≤9223372036854775807:=by
  have:=Nat.le_mul_of_pos_right (ys.length) h.e.pos;omega
 obtain⟨v',w',hr,r1,r2,r3⟩:=append_own_src (P:=P) w 0 T T' o.type e i z k bytes h.e.under hinf hz hsize hby hzs (.slice none 0 0) 0 [] (World.ownsRow_nil w 0 e k) _ ys.length dss.flatten hsrc hlen63 (by simpa using hb) (Nat.zero_le _);have hblk':=blk_own r1;have hext:Ext w w':=⟨r2.os,r2.tape,r2.output,r2.size,fun k hk=>r2.block k hk (by simp[Value.ownBlock])⟩
 unfold Oper.wp;rw[exec_append ho hu rfl hr];refine hK _ _ ⟨bset β d v',?_⟩;rw[hd];have:=Inv.put (hi.fresh (w':=w') d (dstOK.out hdst d hd) hn (.row 0 e k ys) hext v' (fun b hb=>?_) (fun hD=>?_)) (some d) (fun t ht=>by cases ht;exact dstOK.out hdst d hd) (v:= .r d 0) (u:=v') ?_
 ·exact this
 ·rw[hblk']at hb;have hlt:=r1.lt b hb;refine⟨?_,hlt.2⟩;rcases r3 b hb with h4 | h4
  ·simp[Value.ownBlock]at h4
  ·omega
 ·have hown':w'.ownsRow 0 e k (bset β d v' d) (([]:List (List D)).length+ys.length) (([]:List (List Value)).flatten++dss.flatten):=by
   have e0:bset β d v' d=v':=by simp[bset]
   rw[e0];exact r1
  have:=RO.grown (w':=w') (S':=Dat C (bset β d v') ((d,.row 0 e k ys)::σ'.objs) w') (O':=(d,.row 0 e k ys)::σ'.objs) (β':=bset β d v') (g':=0) (id:=d) (e:=e) (k:=k) (xs:=[]) (css:=[]) (S:=Dat C β σ'.objs w) (w:=w) rfl (fun i h=>absurd h (by simp)) (by simp) q1 q2 hk hD hown';simpa using this
 ·intro g' e2 k2 xs2 h4;rw[get?_cons,if_pos rfl]at h4;cases h4;exact⟨Nat.le_refl _,fun _=>by simp[bset]⟩
theorem Do.append1{s x:Operand}{T T':TypeId}{id g d:Nat}{e:TypeId}{k bytes:Nat}{xs:List (List D)}{y:List D}(ho:o.op= .call {callee:= .builtin .append,args:= #[s,x],argTypes:= #[T,T'] })(hd:o.dst=some d)(hs:ev σ s= .r id g)(hO:get? σ.objs id=some (.row g e k xs))(hx:ev σ x= .d (.l [y]))
  [h:Sl P T e k bytes] {e' k' by':Nat} [h':Sl P T' e' k' by'] (hk:y.length=k) (hb:(xs.length+1)*bytes≤140737488355328):
  Do P C o σ (.r id (g+1)) ⟨[id],[],[(id,.row (g+1) e k (xs++[y]))],none⟩:=Do.append ho hd hs hO hx (by simpa using hk) hb
theorem Do.appendN1{s x:Operand}{T T':TypeId}{d:Nat}{e:TypeId}{k bytes:Nat}{y:List D}(ho:o.op= .call {callee:= .builtin .append,args:= #[s,x],argTypes:= #[T,T'] })(hd:o.dst=some d)(hs:ev σ s= .d .n)(hx:ev σ x= .d (.l [y]))
  [h:Sl P T e k bytes] {e' k' by':Nat} [h':Sl P T' e' k' by'] (hk:y.length=k) (hb:Nat.ble bytes 140737488355328=true):
  Do P C o σ (.r d 0) ⟨[],[],[(d,.row 0 e k [y])],some d⟩:=Do.appendN ho hd hs hx (by simpa using hk) (by rw[Nat.ble_eq]at hb;simpa using hb)
end
theorem foldl_putO(off:Nat)(cs:List Value):∀ (k:Nat) (acc:Array Value),(List.foldl (fun(a:Array Value) (x:Value×Nat)=>a.setIfInBounds (off+x.2) x.1) acc (cs.zipIdx k))=putAll acc (off+k) cs:=by
 induction cs with
 | nil=>intro k acc;rfl
 | cons c r ih=>
   intro k acc;simp only[List.zipIdx_cons,List.foldl_cons,putAll];exact ih (k+1) (acc.setIfInBounds (off+k) c)
theorem fill_step(place:Nat→Option (Nat×Nat))(cells:Array Value)(i:Nat)(v:Value)(r:List (Nat×Value))(off size:Nat)(hp:place i=some (off,size))(hs:v.cells.size=size)(hle:off+size≤cells.size):
  Instr.fill place cells ((i,v)::r)=Instr.fill place (putAll cells off v.cells.toList) r:=by
 simp only[Instr.fill,hp,hs];rw[if_neg (by simp;omega)]
 congr 1
 rw[←Array.foldl_toList,Array.toList_zipIdx,foldl_putO,Nat.add_zero]
def AV.cs:AV→Option (List D)
 | .d c=>some [c]
 | .g cs=>some cs
 | _=>none
theorem AV.cs_sound{S:Nat→Prop}{w:World}{β:Nat→Value}{O:List (Nat×AO)}{u:Value}{v:AV}{ds:List D}(h:v.cs=some ds)(hu:RA S w β O u v):RDs S w u.cells.toList ds:=by
 cases v with
 | d c=>
   simp only[AV.cs,Option.some.injEq]at h;subst h;have hu:RD S w u c:=hu;rw[cells_one hu.one];exact .cons hu .nil
 | g cs=>
   simp only[AV.cs,Option.some.injEq]at h;subst h;obtain⟨us,rfl,h2⟩:=hu;exact h2
 | _=>simp[AV.cs]at h
def partsD(σ:AS):List (Nat×Operand)→Option (List (Nat×List D))
 | []=>some []
 | (i,x)::r=>match (ev σ x).cs,partsD σ r with
   | some ds,some pd=>some ((i,ds)::pd)
   | _,_=>none
def fillD(place:Nat→Option (Nat×Nat)):List D→List (Nat×List D)→Option (List D)
 | cs,[]=>some cs
 | cs,(i,ds)::r=>match place i with
   | some (off,size)=>bif Nat.beq ds.length size then(bif Nat.ble (off+size) cs.length then fillD place (splice cs off ds) r else none)else none
   | none=>none
theorem splice_rds{S:Nat→Prop}{w:World}{us vs:List Value}{cs ds:List D}(h:RDs S w us cs)(k:RDs S w vs ds)(o:Nat):RDs S w (splice us o vs) (splice cs o ds):=by
 unfold splice;rw[k.1];exact((h.take o).app k).app (h.drop _)
theorem fill_rel{S:Nat→Prop}{w:World}(place:Nat→Option (Nat×Nat)):∀ (pv:List (Nat×Value)) (pd:List (Nat×List D)) (us:Array Value) (cs out:List D),pv.length=pd.length→(∀i (h:i<pv.length) (h':i<pd.length),(pv[i]).1=(pd[i]).1∧RDs S w (pv[i]).2.cells.toList (pd[i]).2)→RDs S w us.toList cs→fillD place cs pd=some out→
  ∃arr,Instr.fill place us pv=some arr∧RDs S w arr.toList out
 | [],[],us,cs,out,_,_,hr,h=>by
   simp only[fillD,Option.some.injEq]at h;subst h;exact⟨us,rfl,hr⟩
 | (i,v)::pv,(j,ds)::pd,us,cs,out,hl,hp,hr,h=>by
   obtain⟨h1,h2⟩:=hp 0 (by simp) (by simp);simp only[List.getElem_cons_zero]at h1 h2;subst h1;simp only[fillD]at h;cases e:place i with
   | none=>simp[e]at h
   | some x=>
     obtain⟨off,size⟩:=x;simp only[e]at h;cases e1:Nat.beq ds.length size with
     | false=>simp[e1]at h
     | true=>
       cases e2:Nat.ble (off+size) cs.length with
       | false=>simp[e1,e2]at h
       | true=>
         simp only[e1,e2,cond_true]at h;have e1':=Nat.eq_of_beq_eq_true e1;rw[Nat.ble_eq]at e2;have hsz:v.cells.size=size:=by have:=h2.1;simp at this;omega
         have hle:off+size≤us.size:=by have:=hr.1;simp at this;omega
         rw[fill_step place us i v pv off size e hsz hle];refine fill_rel place pv pd _ _ out (by simpa using hl) (fun i h h'=>hp (i+1) (by simpa using h) (by simpa using h')) ?_ h;rw[putAll_list _ _ _ (by simp;omega)];exact splice_rds hr h2 off
class Stt (P:Program) (T:TypeId) (fs:outParam (List (Nat×Nat))):Prop where
 u:∃ fields:Array Field,P.underlying T=some (.struct fields)∧fields.toList.mapM (fun f=>(P.info? f.type).map fun i=>(f.offset,i.size))=some fs
def sttOf(P:Program)(T:Nat):Option (List (Nat×Nat)):=match P.underlying T with
 | some (.struct fields)=>fields.toList.mapM (fun f=>(P.info? f.type).map fun i=>(f.offset,i.size))
 | _=>none
theorem Stt.mk'{P:Program}{T:Nat}{fs:List (Nat×Nat)}(h:sttOf P T=some fs):Stt P T fs:=by
 unfold sttOf at h;split at h
 ·rename_i fields h1;exact⟨fields,h1,h⟩
 ·cases h
section
variable {P:Program}{C:Cx}{o:Oper}{σ:AS}{β:Nat→Value}{a:Act}{w w':World}
theorem partsD_sound{S:Nat→Prop}{O:List (Nat×AO)}:∀ {ps:List (Nat×Operand)} {pd:List (Nat×List D)},(∀x∈ps,RA S w β O (a.eval x.2) (ev σ x.2))→partsD σ ps=some pd→ps.length=pd.length∧∀ i (h:i<ps.length) (h':i<pd.length),(ps[i]).1=(pd[i]).1∧RDs S w (a.eval (ps[i]).2).cells.toList (pd[i]).2
 | [],pd,_,h=>by
   simp only[partsD,Option.some.injEq]at h;subst h;exact⟨rfl,fun i h=>absurd h (by simp)⟩
 | (j,x)::r,pd,he,h=>by
   simp only[partsD]at h;split at h
   ·rename_i ds pd' h1 h2;injection h with h;subst h;obtain⟨h3,h4⟩:=partsD_sound (fun y hy=>he y (by simp[hy])) h2;refine⟨by simp[h3],fun i h h'=>?_⟩;cases i with
    | zero=>exact⟨rfl,AV.cs_sound h1 (he (j,x) (by simp))⟩
    | succ i=>simpa using h4 i (by simpa using h) (by simpa using h')
   ·cases h
theorem Loc.build{T:TypeId}{parts:Array (Nat×Operand)}{zs:List Value}{fs:List (Nat×Nat)}{ds0 out:List D}{pd:List (Nat×List D)}(ho:o.op= .build T parts)[hZ:Zr P T zs][hS:Stt P T fs](h0:constDs zs=some ds0)(hp:partsD σ parts.toList=some pd)(hf:fillD (fs[·]?) ds0 pd=some out):Loc P C o σ (.g out):=
 Loc.quiet fun σ' hl β a w hi=>by
  have hpe:∀ x∈parts.toList,RA (Dat C β σ'.objs w) w β σ'.objs (a.eval x.2) (ev σ x.2):=fun x hx=>hl.ra hi (by rw[ho];simp only[Op.operands];simpa using ⟨x.1,by simpa using hx⟩);obtain⟨q1,q2⟩:=partsD_sound hpe hp;obtain⟨it,z,h1,h2,h3⟩:=hZ.z;obtain⟨fields,h4,h5⟩:=hS.u;obtain⟨arr,r1,r2⟩:=fill_rel (S:=Dat C β σ'.objs w) (w:=w) (fs.toArray[·]?) (parts.toList.map fun x=>(x.1,a.eval x.2)) pd z.cells ds0 out (by simp[q1]) (fun i h h'=>by
   have h7:i<parts.toList.length:=by simpa using h
   rw[List.getElem_map];exact q2 i h7 h') (by rw[h3];exact constDs_sound h0) (by simpa using hf)
  refine⟨.agg arr,?_,arr.toList,by simp,r2⟩;unfold execOp;rw[ho];have hb:P.built T (parts.map fun(i,x)=>(i,a.eval x)).toList=some arr:=by
   unfold Program.built;rw[h1,h4];simp only[h2,h5];rw[←r1];simp
  simp only[Sem.run_bind,run_build w T _ arr hb,Result.andThen_ok];rfl
def litD(σ:AS):List (Nat×Operand)→Nat→Option (List (List D))
 | [],_=>some []
 | (j,x)::r,i=>bif Nat.beq j i then(match (ev σ x).cs,litD σ r (i+1)with
   | some ds,some xs=>some (ds.map D.fg::xs)
   | _,_=>none)else none
theorem litD_sound{S:Nat→Prop}{O:List (Nat×AO)}(k:Nat):∀ {ps:List (Nat×Operand)} {i:Nat} {xs:List (List D)} {cells:Array Value},(∀x∈ps,RA S w β O (a.eval x.2) (ev σ x.2))→litD σ ps i=some xs→(∀x∈xs,x.length=k)→(i+xs.length)*k=cells.size→
  ∃(arr:Array Value) (css:List (List Value)),Instr.fill (fun i=>some (i*k,k)) cells (ps.map fun x=>(x.1,a.eval x.2))=some arr∧arr.toList=cells.toList.take (i*k)++css.flatten∧css.length=xs.length∧∀ i (h:i<css.length) (h':i<xs.length),RDs S w css[i] xs[i]
 | [],i,xs,cells,_,h,hk,hsz=>by
   simp only[litD,Option.some.injEq]at h;subst h;refine⟨cells,[],rfl,?_,rfl,fun i h=>absurd h (by simp)⟩;rw[List.take_of_length_le (by simp at hsz ⊢;omega)];simp
 | (j,x)::r,i,xs,cells,he,h,hk,hsz=>by
   simp only[litD]at h;cases e:Nat.beq j i with
   | false=>rw[e]at h;cases h
   | true=>
     have e':=Nat.eq_of_beq_eq_true e;subst e';rw[e]at h;simp only[cond_true]at h;split at h
     ·rename_i ds xs' h1 h2;injection h with h;subst h;have h3:=(AV.cs_sound h1 (he (j,x) (by simp))).fg;have hds:(ds.map D.fg).length=k:=hk _ (by simp);have hcl:(a.eval x).cells.size=k:=by have:=h3.1;simp at this hds;omega
      have hle:j*k+k≤cells.size:=by
       rw[←hsz];have:(j+(xs'.length+1))*k=j*k+k+xs'.length*k:=by rw[←Nat.add_assoc,Nat.add_right_comm,Nat.add_mul,Nat.add_mul];omega
       simp only[List.length_cons];omega
      obtain⟨arr,css,r1,r2,r3,r4⟩:=litD_sound k (cells:=putAll cells (j*k) (a.eval x).cells.toList) (fun y hy=>he y (by simp[hy])) h2 (fun y hy=>hk y (by simp[hy])) (by rw[putAll_size,←hsz];simp only[List.length_cons];congr 1;omega);refine⟨arr,(a.eval x).cells.toList::css,?_,?_,by simp[r3],fun i h h'=>?_⟩
      ·simp only[List.map_cons];rw[fill_step _ _ j _ _ (j*k) k rfl hcl hle];exact r1
      ·rw[r2];have:=putAll_take (a.eval x).cells.toList cells (j*k) (by simp[hcl];omega);rw[show (j+1)*k=j*k+(a.eval x).cells.toList.length by rw[Nat.add_mul];simp[hcl],this];simp
      ·cases i with
       | zero=>exact h3
       | succ i=>simpa using r4 i (by simpa using h) (by simpa using h')
     ·cases h
theorem litD_len:∀ {ps:List (Nat×Operand)} {i:Nat} {xs:List (List D)},litD σ ps i=some xs→ps.length=xs.length
 | [],_,xs,h=>by simp only[litD,Option.some.injEq]at h;subst h;rfl
 | (j,x)::r,i,xs,h=>by
   simp only[litD]at h;cases e:Nat.beq j i with
   | false=>rw[e]at h;cases h
   | true=>
     rw[e]at h;simp only[cond_true]at h;split at h
     ·rename_i ds xs' h1 h2;injection h with h;subst h;simp[litD_len h2]
     ·cases h
theorem RD.laid{S:Nat→Prop}{arr:Array Value}{e:TypeId}{k:Nat}{css:List (List Value)}{xs:List (List D)}(hS:S w.heap.size)(hl:css.length=xs.length)(hk:∀ x∈xs,x.length=k)(hr:∀ i (h:i<css.length) (h':i<xs.length),RDs S (w.alloc (.cells arr e)) css[i] xs[i])(ha:arr.toList=css.flatten)(hm:xs.length≤maxLen):
  RD S (w.alloc (.cells arr e)) (.slice (some ⟨w.heap.size,0,none⟩) xs.length xs.length) (.l xs):=by
 have hfl:=flat_len hl hr hk;refine RD.ofCells rfl (Nat.le_refl _) hm hl (fun i h=>hk _ (List.getElem_mem h)) hr fun _=>⟨_,_,rfl,hS,fun i hi j v hv=>?_⟩
 have hj:j<css[i].length:=(List.getElem?_eq_some_iff.1 hv).1;have h1:=flatten_get hfl i j hi (by rw[←hfl _ (List.getElem_mem hi)];exact hj);rw[hv,←ha]at h1;simp only[World.cell?,heap_alloc_new];simpa using h1
theorem Loc.lit{T:TypeId}{len:Nat}{parts:Array (Nat×Operand)}{e:TypeId}{k by_:Nat}{xs:List (List D)}(ho:o.op= .buildSlice T len parts)[h:Sl P T e k by_](hp:litD σ parts.toList 0=some xs)(hlen:xs.length=len)(hk:(xs.all fun x=>Nat.beq x.length k)=true)(hsm:Nat.ble (len*k) 16777216=true)(hk0:Nat.blt 0 k=true):Loc P C o σ (.d (.l xs)):=
 Do.of fun σ' hl β a w hi=>by
  have hpe:∀ x∈parts.toList,RA (Dat C β σ'.objs w) w β σ'.objs (a.eval x.2) (ev σ x.2):=fun x hx=>hl.ra hi (by rw[ho];simp only[Op.operands];simpa using ⟨x.1,by simpa using hx⟩);have hk':∀ x∈xs,x.length=k:=fun x hx=>Nat.eq_of_beq_eq_true (List.all_eq_true.1 hk x hx);obtain⟨ie,z,h1,h2,h3,h4,h5⟩:=h.e.info;rw[Nat.ble_eq]at hsm;rw[Nat.blt_eq]at hk0;subst hlen;have hmax:xs.length≤maxLen:=by
   have:xs.length≤xs.length*k:=Nat.le_mul_of_pos_right _ hk0;unfold maxLen;omega
  have hS:∀ arr:Array Value,Dat C β σ'.objs (w.alloc (.cells arr e)) w.heap.size:=fun arr=>⟨.inr (.inl hi.size),by simp,fun id o hid hb=>by have:=(hi.own id o _ hid hb).2;omega⟩
  by_cases h0:xs.length=0
  ·have hx0:xs=[]:=List.eq_nil_of_length_eq_zero h0;subst hx0;have hp0:parts= #[]:=by
    have:=litD_len hp;exact Array.eq_empty_of_size_eq_zero (by simpa using this)
   subst hp0;refine⟨.slice (some ⟨w.heap.size,0,none⟩) 0 0,w.alloc (.cells #[] e),?_,(Below.refl _ _).al _,?_⟩
   ·unfold execOp;rw[ho];simp[Instr.buildSlice,run_underlying h.e.under,sizeOf,typeInfo,h1,newRow,Instr.fill];have e0:∀ f:Nat→Value,Array.map f (Array.range 0)= #[]:=fun f=>Array.eq_empty_of_size_eq_zero (by simp);rw[e0]
   ·exact RD.laid (k:=k) (css:=[]) (hS _) rfl (by simp) (fun i h=>absurd h (by simp)) rfl hmax
  ·have hpos:¬ xs.length*k=0:=by
    have:=Nat.mul_pos (Nat.pos_of_ne_zero h0) hk0;omega
   obtain⟨arr,css,r1,r2,r3,r4⟩:=litD_sound k (cells:=(Array.range (xs.length*k)).map (z.cells[· % z.cells.size]!)) hpe hp hk' (by simp);have hf:Instr.fill (fun i=>some (i*ie.size,ie.size)) ((Array.range (xs.length*ie.size)).map (z.cells[· % z.cells.size]!)) (parts.map fun(i,x)=>(i,a.eval x)).toList=some arr:=by rw[h3,←r1];simp
   refine⟨.slice (some ⟨w.heap.size,0,none⟩) xs.length xs.length,w.alloc (.cells arr e),?_,(Below.refl _ _).al _,?_⟩
   ·unfold execOp;rw[ho];simp only[Sem.run_bind,run_buildSlice w T e xs.length _ arr ie z h.e.under h1 h2 (by rw[h3];omega) (by rw[h3];exact hpos) hf,Result.andThen_ok];rfl
   ·exact RD.laid (hS _) r3 hk' (fun i h h'=>(r4 i h h').keep (Dat.ext ((Below.refl _ _).al _))) (by rw[r2];simp) hmax
theorem Loc.litP{T:TypeId}{len:Nat}{parts:Array (Nat×Operand)}{e:TypeId}{k by_:Nat}{xs:List (List D)}(ho:o.op= .buildSlice T len parts)(_:Nat.blt 0 len=true)[h:Sl P T e k by_](hp:litD σ parts.toList 0=some xs)(hlen:xs.length=len)(hk:(xs.all fun x=>Nat.beq x.length k)=true)(hsm:Nat.ble (len*k) 16777216=true)(hk0:Nat.blt 0 k=true):Loc P C o σ (.d (.l xs)):=
 Loc.lit ho hp hlen hk hsm hk0
theorem Do.lit0{T:TypeId}{d:Nat}{e:TypeId}{k by_:Nat}(ho:o.op= .buildSlice T 0 #[])(hd:o.dst=some d)[h:Sl P T e k by_]:Do P C o σ (.r d 0) ⟨[],[],[(d,.row 0 e k [])],some d⟩:=by
 intro σ' hl hdst a w K Q' ⟨β,hi⟩ hK;obtain⟨ie,z,h1,h2,h3,h4,h5⟩:=h.e.info;have hrun:(execOp a.eval o).run P w= .ok (.value (.slice (some ⟨w.heap.size,0,none⟩) 0 0)) (w.alloc (.cells #[] e)):=by
  unfold execOp;rw[ho];simp[Instr.buildSlice,run_underlying h.e.under,sizeOf,typeInfo,h1,newRow,Instr.fill];have e0:∀ f:Nat→Value,Array.map f (Array.range 0)= #[]:=fun f=>Array.eq_empty_of_size_eq_zero (by simp);rw[e0]
 unfold Oper.wp;rw[hrun];have hx:Ext w (w.alloc (.cells #[] e)):=(Below.refl _ _).al _;refine hK _ _ ⟨bset β d (.slice (some ⟨w.heap.size,0,none⟩) 0 0),?_⟩;rw[hd];have:=Inv.put (hi.fresh d (dstOK.out hdst d hd) (hl.new d rfl) (.row 0 e k []) hx (.slice (some ⟨w.heap.size,0,none⟩) 0 0) (fun b hb=>by cases hb;exact⟨Nat.le_refl _,by simp⟩) (fun hD=>?_)) (some d) (fun t ht=>by cases ht;exact dstOK.out hdst d hd) (v:= .r d 0) (u:= .slice (some ⟨w.heap.size,0,none⟩) 0 0) ?_
 ·exact this
 ·refine⟨[],rfl,fun i h=>absurd h (by simp),by simp,?_⟩;have e0:bset β d (.slice (some ⟨w.heap.size,0,none⟩) 0 0) d= .slice (some ⟨w.heap.size,0,none⟩) 0 0:=by simp[bset]
  rw[e0];exact⟨by simp,.inr ⟨w.heap.size,0,#[],rfl,Nat.zero_le _,heap_alloc_new w _,Nat.le_refl _,by simp[maxLen],by simp,by simp⟩⟩
 ·intro g' e2 k2 xs2 h4;rw[get?_cons,if_pos rfl]at h4;cases h4;exact⟨Nat.le_refl _,fun _=>by simp[bset]⟩
theorem Do.make{T:TypeId}{lo co:Operand}{d l c:Nat}{e:TypeId}{k bytes:Nat}{zs:List Value}{zd:List D}{kl kc:IntKind}(ho:o.op= .makeSlice T lo co)(hd:o.dst=some d)(hl:ev σ lo= .d (.v (.int kl (l:Int))))(hc:ev σ co= .d (.v (.int kc (c:Int))))[h:Sl P T e k bytes][hZ:Zr P e zs](hz:constDs zs=some zd)(hlc:l≤c)(hby:c*bytes≤140737488355328):
  Do P C o σ (.r d 0) ⟨[],[],[(d,.row 0 e k (List.replicate l (zd.map D.fg)))],some d⟩:=by
 intro σ' hlk hdst a w K Q' ⟨β,hi⟩ hK;have hn:=hlk.new d rfl;have h1:=RA.val (by have:=hlk.ra hi (x:=lo) (by rw[ho];simp[Op.operands]);rwa[hl]at this);have h2:=RA.val (by have:=hlk.ra hi (x:=co) (by rw[ho];simp[Op.operands]);rwa[hc]at this);obtain⟨ie,z,q1,q2,q3,q4,q5⟩:=h.e.info;obtain⟨ie',z',p1,p2,p3⟩:=hZ.z;rw[q1]at p1;cases p1;rw[q2]at p2;cases p2;have hcb:c≤c*bytes:=Nat.le_mul_of_pos_right _ h.e.pos;have hb':(ie.bytes:Int)*(c:Int)≤281474976710656:=by
  rw[q4];have h:((c*bytes:Nat):Int)≤281474976710656:=by omega
  rw[Int.natCast_mul,Int.mul_comm]at h;exact h
 have hr:=run_make (P:=P) w T e ie z h.e.under q1 q2 kl kc l c (by omega) (by omega) hb' (by omega);simp only[Int.toNat_natCast]at hr;rw[q3]at hr;have hx:Ext w (w.alloc (.cells (madeCells z.cells (c*k)) e)):=(Below.refl _ _).al _;have hrun:(execOp a.eval o).run P w= .ok (.value (.slice (some ⟨w.heap.size,0,none⟩) l c)) (w.alloc (.cells (madeCells z.cells (c*k)) e)):=by
  unfold execOp;rw[ho];simp only[Sem.run_bind,h1,h2,hr,Result.andThen_ok];rfl
 unfold Oper.wp;rw[hrun];refine hK _ _ ⟨bset β d (.slice (some ⟨w.heap.size,0,none⟩) l c),?_⟩;rw[hd];have:=Inv.put (hi.fresh d (dstOK.out hdst d hd) hn (.row 0 e k (List.replicate l (zd.map D.fg))) hx (.slice (some ⟨w.heap.size,0,none⟩) l c) (fun b hb=>by cases hb;exact⟨Nat.le_refl _,by simp⟩) (fun hD=>?_)) (some d) (fun t ht=>by cases ht;exact dstOK.out hdst d hd) (v:= .r d 0) (u:= .slice (some ⟨w.heap.size,0,none⟩) l c) ?_
 ·exact this
 ·have hzl:zs.length=k:=by rw[←p3];simpa using q5
  refine⟨List.replicate l zs,by simp,fun i h h'=>?_,fun x hx=>?_,?_⟩
  ·simp only[List.getElem_replicate];exact(constDs_sound hz).fg
  ·rw[(List.mem_replicate.1 hx).2];have:=(constDs_sound (S:=fun _=>True) (w:=w) hz).1;simp;omega
  ·have e0:bset β d (.slice (some ⟨w.heap.size,0,none⟩) l c) d= .slice (some ⟨w.heap.size,0,none⟩) l c:=by simp[bset]
   rw[e0];refine⟨?_,.inr ⟨w.heap.size,c,_,by simp,Nat.zero_le _,heap_alloc_new w _,by simpa using hlc,by unfold maxLen;omega,by rw[size_madeCells],?_⟩⟩
   ·rw[flatten_len (k:=k) (fun cs hcs=>by rw[(List.mem_replicate.1 hcs).2,hzl])];simp
   ·have hfl:∀ cs∈List.replicate l zs,cs.length=k:=fun cs hcs=>by rw[(List.mem_replicate.1 hcs).2,hzl]
    apply List.ext_getElem?;intro j;simp only[List.length_replicate];by_cases hj:j<l*k
    ·have hkp:0<k:=by
      rcases Nat.eq_zero_or_pos k with h | h
      ·rw[h]at hj;simp at hj
      ·exact h
     have hi':j / k<(List.replicate l zs).length:=by simp;exact Nat.div_lt_of_lt_mul (by rw[Nat.mul_comm];exact hj)
     have hm':j % k<k:=Nat.mod_lt _ hkp;have hdm:j / k*k+j % k=j:=by rw[Nat.mul_comm];exact Nat.div_add_mod j k
     have h4:=flatten_get hfl (j / k) (j % k) hi' hm';rw[hdm]at h4;rw[h4,List.getElem?_take_of_lt hj];have hjc:j<c*k:=Nat.lt_of_lt_of_le hj (Nat.mul_le_mul_right _ hlc);have hzs:z.cells.size=k:=q5;simp only[List.getElem_replicate];rw[←p3];simp only[madeCells,Array.toList_map,List.getElem?_map,Array.toList_range,List.getElem?_range hjc,Option.map_some,Array.getElem?_toList];rw[hzs,getElem!_pos z.cells (j % k) (by rw[hzs];exact hm'),Array.getElem?_eq_getElem (by rw[hzs];exact hm')]
    ·rw[List.getElem?_eq_none (by simp;omega),List.getElem?_eq_none (by rw[flatten_len hfl];simp;omega)]
 ·intro g' e2 k2 xs2 h4;rw[get?_cons,if_pos rfl]at h4;cases h4;exact⟨Nat.le_refl _,fun _=>by simp[bset]⟩
end
theorem flatten_splice{α:Type}{css:List (List α)}{k:Nat}(hk:∀ cs∈css,cs.length=k){i:Nat}(hi:i<css.length)(off:Nat)(us:List α)(hle:off+us.length≤k):
  (css.set i (splice css[i] off us)).flatten=splice css.flatten (i*k+off) us:=by
 have flen:∀ l:List (List α),(∀cs∈l,cs.length=k)→l.flatten.length=l.length*k:=by
  intro l
  induction l with
  | nil=>simp
  | cons c r ih=>
    intro h;rw[List.flatten_cons,List.length_append,h c (by simp),ih (fun cs hc=>h cs (by simp[hc])),List.length_cons,Nat.add_mul];omega
 have split:css.flatten=(css.take i).flatten++(css[i]++(css.drop (i+1)).flatten):=by
  have:css=css.take i++css[i]::css.drop (i+1):=by rw[←List.drop_eq_getElem_cons hi,List.take_append_drop]
  rw[←List.flatten_cons,←List.flatten_append,←this]
 have hpre:(css.take i).flatten.length=i*k:=by
  rw[flen _ (fun cs hc=>hk cs (List.mem_of_mem_take hc)),List.length_take,Nat.min_eq_left (by omega)]
 have hci:css[i].length=k:=hk _ (List.getElem_mem hi);rw[List.set_eq_take_append_cons_drop,if_pos hi,List.flatten_append,List.flatten_cons,split];generalize (css.take i).flatten=a at*;generalize (css.drop (i+1)).flatten=c at*;generalize css[i]=b at*;unfold splice;have e1:(a++(b++c)).take (i*k+off)=a++b.take off:=by
  rw[←hpre,List.take_length_add_append,List.take_append_of_le_length (by omega)]
 have e2:(a++(b++c)).drop (i*k+off+us.length)=b.drop (off+us.length)++c:=by
  rw[Nat.add_assoc,←hpre,List.drop_length_add_append,List.drop_append_of_le_length (by omega)]
 rw[e1,e2];simp
section
variable {P:Program}{C:Cx}{o:Oper}{σ:AS}
theorem Do.storeE{T:TypeId}{x y:Operand}{id g idx off k n:Nat}{e:TypeId}{xs:List (List D)}{cs ds:List D}{v:AV}{ag:Bool}(ho:o.op= .store T x y)(hx:ev σ x= .e id g idx off)(hO:get? σ.objs id=some (.row g e k xs))(hi:xs[idx]?=some cs)(hy:ev σ y=v)(hv:v.cs=some ds)[h:Sz P T ag n](hn:ds.length=n)(hle:Nat.ble (off+n) k=true)(hd:o.dst=none):
  Do P C o σ .un ⟨[id],[],[(id,.row g e k (xs.set idx (splice cs off (ds.map D.fg))))],none⟩:=by
 intro σ' hl hdst a w K Q' ⟨β,hi'⟩ hK;have h1:=hl.ra hi' (x:=x) (by rw[ho];simp[Op.operands]);rw[hx]at h1;have h2:=hl.ra hi' (x:=y) (by rw[ho];simp[Op.operands]);rw[hy]at h2;have hO':get? σ'.objs id=some (.row g e k xs):=by rw[hl.rd id (by simp)];exact hO
 obtain⟨b,nn,cc,hb,hu⟩:=(h1 g e k xs hO').2 rfl;obtain⟨css,q1,q2,q3,hown⟩:=hi'.obj id _ hO';obtain⟨hlt,hxi⟩:=List.getElem?_eq_some_iff.1 hi;have hlt':idx<css.length:=by omega
 have hus:=(AV.cs_sound hv h2).fg;have hul:(a.eval y).cells.toList.length=n:=by have:=hus.1;simp at this ⊢;omega
 rw[Nat.ble_eq]at hle;have hfl:=flat_len q1 q2 q3;rcases hown.2 with ⟨h0,h3⟩ | ⟨gb,cap,cur,hv',hb0,hg,hnc,hcm,hcs,htake⟩
 ·omega
 ·rw[hb]at hv';cases hv';have hp:idx*k+off+n≤cur.size:=by
   have:(idx+1)*k≤cc*k:=Nat.mul_le_mul_right _ (by omega);rw[Nat.add_mul]at this;omega
  have hp2:idx*k+off+n≤xs.length*k:=by
   have:(idx+1)*k≤xs.length*k:=Nat.mul_le_mul_right _ (by omega);rw[Nat.add_mul]at this;omega
  have ht:w.there b (idx*k+off) (a.eval y).cells.toList.length:=fun j hj=>by
   have:idx*k+off+j<cur.size:=by omega
   simp[World.cell?,World.frozen?,hg,this]
  have hrun:(execOp a.eval o).run P w= .ok .skip (w.setCells b (idx*k+off) (a.eval y).cells.toList):=by
   unfold execOp;rw[ho];simp[hu,run_storeAt_cells h b (idx*k+off) (a.eval y) (a.eval y).cells.toList (by simp) hul hus.one ht]
  unfold Oper.wp;rw[hrun];have hgr:=grownBy_setCells b (a.eval y).cells.toList (idx*k+off) w;have hself:=heap_setCells_self b e (0,0) (a.eval y).cells.toList cur (idx*k+off) w hg;refine hK _ _ ⟨bset β id (β id),?_⟩;rw[hd];refine hi'.upd id (.row g e k xs) (.row g e k (xs.set idx (splice cs off (ds.map D.fg)))) hO' (β id) hgr.os hgr.tape hgr.output hgr.size (fun k hk hne=>hgr.block k hk fun e=>hne (by rw[hb];simp at e;rw[e];rfl)) (fun b2 h2=>⟨.inl h2,Nat.lt_of_lt_of_le (hi'.own id _ b2 hO' h2).2 hgr.size⟩) ⟨Nat.le_refl _,fun _=>⟨rfl,rfl⟩⟩ fun hD _=>?_;have hcl:css[idx].length=k:=hfl _ (List.getElem_mem hlt');have hcsl:cs.length=k:=by rw[←hxi];exact q3 _ (List.getElem_mem hlt)
  refine⟨css.set idx (splice css[idx] off (a.eval y).cells.toList),by simp[q1],fun i h h'=>?_,fun z hz=>?_,?_⟩
  ·by_cases e':idx=i
   ·subst e';simp only[List.getElem_set_self];have hr:=q2 idx hlt' hlt;rw[hxi]at hr;exact(splice_rds hr hus off).keep hD
   ·rw[List.getElem_set_ne e',List.getElem_set_ne e'];exact(q2 i (by simpa using h) (by simpa using h')).keep hD
  ·rcases List.mem_or_eq_of_mem_set hz with h5 | h5
   ·exact q3 z h5
   ·rw[h5,splice_length (by simp;omega),hcsl]
  ·have e0:bset β id (β id) id=β id:=by simp[bset]
   rw[e0,List.length_set,flatten_splice hfl hlt' off _ (by omega)];refine⟨?_,.inr ⟨b,cc,_,hb,hb0,hself,hnc,hcm,by rw[putAll_size,hcs],?_⟩⟩
   ·rw[splice_length (by rw[flatten_len hfl,q1];omega),flatten_len hfl,q1]
   ·rw[putAll_list _ _ _ (by omega),←htake];unfold splice;have hlen:xs.length*k≤cur.toList.length:=by
     have:xs.length*k≤cc*k:=Nat.mul_le_mul_right _ hnc;simp;omega
    generalize cur.toList=L at*;generalize (a.eval y).cells.toList=U at*;rw[List.take_append,List.take_append,List.take_of_length_le (l:=L.take (idx*k+off)) (by simp;omega),List.take_of_length_le (l:=U) (by simp;omega),List.take_take,Nat.min_eq_left (by omega),List.drop_take]
    congr 2
    simp;omega
theorem Loc.callVexec{f:FuncId}{a:Act}{w:World}{P:Program}{c:Operand}{xs:Array Operand}{ts:Array TypeId}(hb:∃ fn,P.funcs[f]?=some fn∧fn.body.isNone=false∧(fn.name== "runtime.NumGoroutine")=false)(ho:o.op= .call {callee:= .value c,args:=xs,argTypes:=ts })(hc:a.eval c= .func (.func f) #[] #[]):(execOp a.eval o).run P w= .ok (.enter f (xs.toList.map a.eval).toArray) w:=by
 obtain⟨fn,h1,h2,h3⟩:=hb;unfold execOp;rw[ho];have h2':fn.body≠none:=by
  intro h;rw[h]at h2;cases h2
 have h3':fn.name≠ "runtime.NumGoroutine" :=by simpa using h3
 obtain⟨l⟩:=xs;simp[resolve,hc,Deferred.ofValue,invoke,callFunc,h1,h2',h3']
end
end Go.Proofs.YtbbpecfapohlaaaGreatDoor
