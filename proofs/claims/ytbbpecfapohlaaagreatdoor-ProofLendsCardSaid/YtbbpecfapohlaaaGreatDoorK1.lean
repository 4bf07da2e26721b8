import Derived.WalkKit
import Derived.WalkSpells
import Derived.WalkLawsBesides
import Derived.BigQuiet
import Derived.ProofKit
import Derived.OpenShut
import Derived.JoinedCond
import Derived.Deep.Slices
import Derived.Lib.Hide
import Derived.Deep.RegionWith
import Derived.Deep.RegionHeld3
import Derived.Deep.AppendSrc
import Derived.Deep.MidRow
import Derived.OrdersHeld
namespace Go.Proofs.YtbbpecfapohlaaaGreatDoor
open Go.RowKit
theorem lt_of_cell{w:World}{b o:Nat}{s:Option Nat}{v:Value}(h:w.cell? ⟨b,o,s⟩=some v):b<w.heap.size:=by
 unfold World.cell? at h;cases e:w.heap[b]? with
 | none=>simp[e]at h
 | some x=>exact(Array.getElem?_eq_some_iff.1 e).1
abbrev Ext(w w':World):Prop:=Below w.heap.size w w'
theorem _root_.Go.RowKit.Below.al{w w':World}(h:Ext w w')(o:Obj):Ext w (w'.alloc o):=h.alloc h.size o
theorem _root_.Go.RowKit.Below.drN{w w':World}(h:Ext w w')(n:Nat):Ext w (w'.drewN n):=⟨h.os,h.tape,h.output,h.size,h.block⟩
theorem _root_.Go.RowKit.Below.tr{a b c:World}(h:Ext a b)(k:Ext b c):Ext a c:=h.trans (k.mono h.size)
theorem _root_.Go.RowKit.Below.st{w w':World}(h:Ext w w'){p:Addr}(hp:w.heap.size≤p.block)(u:Value):Ext w (w'.setCell p u):=h.setCell hp u
structure Rp(α:Type) where
 k:Nat
 rel:(Nat→Prop)→World→List Value→α→Prop
 len:∀ {S w cs a},rel S w cs a→cs.length=k
 one:∀ {S w cs a},rel S w cs a→∀ u∈cs,u.oneCell'=true
 keep:∀ {S S':Nat→Prop} {w w':World} {cs a},rel S w cs a→(∀b,S b→S' b∧w'.heap[b]?=w.heap[b]?)→rel S' w' cs a
abbrev Lt(n:Nat):Nat→Prop:=fun b=>b<n
theorem Rp.mono{α:Type}(R:Rp α){S S':Nat→Prop}{w:World}{cs:List Value}{a:α}(h:R.rel S w cs a)(hs:∀ b,S b→S' b):R.rel S' w cs a:=
 R.keep h fun b hb=>⟨hs b hb,rfl⟩
theorem Rp.below{α:Type}(R:Rp α){n m:Nat}{w w':World}{cs:List Value}{a:α}(h:R.rel (Lt n) w cs a)(hb:Below n w w')(hm:n≤m):R.rel (Lt m) w' cs a:=
 R.keep h fun b hlt=>⟨Nat.lt_of_lt_of_le hlt hm,hb.block b hlt⟩
def Rp.bool:Rp Bool where
 k:=1
 rel _ _ cs b:=cs=[.bool b]
 len h:=by subst h;rfl
 one h:=by subst h;simp[Value.oneCell']
 keep h _:=h
def Rp.int(k:IntKind):Rp Int where
 k:=1
 rel _ _ cs n:=cs=[.int k n]∧k.min≤n∧n≤k.max
 len h:=by rw[h.1];rfl
 one h:=by rw[h.1];simp[Value.oneCell']
 keep h _:=h
def Rp.map{α β:Type}(A:Rp α)(f:β→α):Rp β where
 k:=A.k
 rel S w cs x:=A.rel S w cs (f x)
 len h:=A.len h
 one h:=A.one h
 keep h hs:=A.keep h hs
def Elems{α:Type}(R:Rp α)(S:Nat→Prop)(w:World)(b o:Nat)(l:List α):Prop:=
 ∀i (h:i<l.length),∃es,R.rel S w es l[i]∧∀ j (hj:j<es.length),w.cell? ⟨b,o+(i*R.k+j),none⟩=some es[j]
def Rp.slice{α:Type}(R:Rp α):Rp (List α) where
 k:=1
 rel S w cs l:=∃ a c,cs=[.slice a l.length c]∧l.length≤c∧c≤maxLen∧(0<l.length→∃ b o,a=some ⟨b,o,none⟩∧S b∧Elems R S w b o l)
 len h:=by obtain⟨a,c,rfl,_⟩:=h;rfl
 one h:=by obtain⟨a,c,rfl,_⟩:=h;simp[Value.oneCell']
 keep h hs:=by
  obtain⟨a,c,e,h1,h2,h3⟩:=h;refine⟨a,c,e,h1,h2,fun hp=>?_⟩;obtain⟨b,o,ha,hb,hel⟩:=h3 hp;refine⟨b,o,ha,(hs b hb).1,fun i hi=>?_⟩;obtain⟨es,hr,hc⟩:=hel i hi;exact⟨es,R.keep hr hs,fun j hj=>(World.cell?_of_block (w:=_) ((hs b hb).2)).trans (hc j hj)⟩
theorem flatten_len{css:List (List Value)}{k:Nat}(h:∀ cs∈css,cs.length=k):css.flatten.length=css.length*k:=by
 induction css with
 | nil=>simp
 | cons c r ih=>
   rw[List.flatten_cons,List.length_append,h c (by simp),ih (fun cs hc=>h cs (by simp[hc])),List.length_cons,Nat.add_mul];omega
theorem flatten_get{css:List (List Value)}{k:Nat}(h:∀ cs∈css,cs.length=k)(i j:Nat)(hi:i<css.length)(hj:j<k):
  css.flatten[i*k+j]?=(css[i])[j]?:=by
 induction css generalizing i with
 | nil=>simp at hi
 | cons c r ih=>
   have hc:=h c (by simp);cases i with
   | zero=>
     simp only[Nat.zero_mul,Nat.zero_add,List.flatten_cons,List.getElem_cons_zero];rw[List.getElem?_append_left (by omega)]
   | succ i=>
     have e:(i+1)*k+j=k+(i*k+j):=by rw[Nat.add_mul];omega
     rw[e,List.flatten_cons,List.getElem?_append_right (by omega),hc,Nat.add_sub_cancel_left];simpa using ih (fun cs hcs=>h cs (by simp[hcs])) i (by simpa using hi)
def putAll(cs:Array Value):Nat→List Value→Array Value
 | _,[]=>cs
 | o,v::r=>putAll (cs.setIfInBounds o v) (o+1) r
theorem putAll_size(vs:List Value):∀ (cs:Array Value) (o:Nat),(putAll cs o vs).size=cs.size:=by
 induction vs with
 | nil=>intro cs o;rfl
 | cons v r ih=>intro cs o;simp[putAll,ih]
theorem putAll_take(vs:List Value):∀ (cs:Array Value) (o:Nat),o+vs.length≤cs.size→(putAll cs o vs).toList.take (o+vs.length)=cs.toList.take o++vs:=by
 induction vs with
 | nil=>intro cs o _;simp[putAll]
 | cons v r ih=>
   intro cs o h;simp only[List.length_cons]at h;have:=ih (cs.setIfInBounds o v) (o+1) (by simp;omega);simp only[putAll,List.length_cons];rw[show o+(r.length+1)=o+1+r.length by omega,this];have e:(cs.setIfInBounds o v).toList.take (o+1)=cs.toList.take o++[v]:=by
    rw[Array.toList_setIfInBounds,List.take_add_one];simp only[List.getElem?_set];rw[List.take_set_of_le (Nat.le_refl _)];simp;omega
   rw[e];simp
theorem heap_setCells_self(g:Nat)(e:TypeId)(fr:Nat×Nat)(vs:List Value):∀ (cur:Array Value) (o:Nat) (w:World),w.heap[g]?=some (.cells cur e fr)→(w.setCells g o vs).heap[g]?=some (.cells (putAll cur o vs) e fr):=by
 induction vs with
 | nil=>intro cur o w h;exact h
 | cons v r ih=>
   intro cur o w h;refine ih (cur.setIfInBounds o v) (o+1) _ ?_;simp only[World.setCell,Array.getElem?_modify,h];simp
theorem grownBy_setCells(g:Nat)(vs:List Value):∀ (o:Nat) (w:World),w.grownBy (w.setCells g o vs) (some g):=by
 induction vs with
 | nil=>intro o w;exact World.grownBy.refl w _
 | cons v r ih=>
   intro o w;have h:=ih (o+1) (w.setCell ⟨g,o,none⟩ v);have hs:(w.setCell ⟨g,o,none⟩ v).heap.size=w.heap.size:=by simp[World.setCell]
   refine⟨h.os.trans rfl,h.tape.trans rfl,h.output.trans rfl,by have:=h.size;show w.heap.size≤_;rw[←hs];exact this,fun k hk hne=>?_⟩;rw[show (w.setCells g o (v::r)).heap[k]?=((w.setCell ⟨g,o,none⟩ v).setCells g (o+1) r).heap[k]? from rfl,h.block k (by rw[hs];exact hk) hne];exact Below.heap_setCell _ _ _ _ (fun e=>hne (by simp at e;rw[e]))
theorem append_own_src{P:Program}(w:World)(base:Nat)(t tx ty e:TypeId)(i:TypeInfo)(z:Value)(size bytes:Nat)(ht:P.underlying t=some (.slice e))(hi:P.info? e=some i)(hz:i.zero=some z)
  (hsize:i.size=size) (hby:i.bytes=bytes) (hzs:z.cells.size=size) (v:Value) (n:Nat) (xs:List Value) (hown:w.ownsRow base e size v n xs)
  (x:Value) (m:Nat) (news:List Value) (hs:Src P size tx x m news w) (h63:n+m≤9223372036854775807) (hbytes:(n+m)*bytes≤140737488355328) (hbase:base≤w.heap.size):
  ∃v' w',(Builtin.append_ #[t,tx] ty #[v,x]).run P w= .ok v' w'∧w'.ownsRow base e size v' (n+m) (xs++news)∧w.grownBy w' v.ownBlock∧
   (∀g,v'.ownBlock=some g→v.ownBlock=some g∨g=w.heap.size):=by
 subst hsize;subst hby;have hlen:(xs++news).length=(n+m)*i.size:=by rw[List.length_append,hown.1,hs.newsLen,Nat.add_mul]
 have grow:∀ (ba:Option Addr) (cap:Nat),v= .slice ba n cap→(Builtin.firstCells i.size n (.slice ba n cap)).run P w.drew= .ok xs.toArray w.drew→cap<n+m→
   ∃v' w',(Builtin.append_ #[t,tx] ty #[v,x]).run P w= .ok v' w'∧w'.ownsRow base e i.size v' (n+m) (xs++news)∧w.grownBy w' v.ownBlock∧
   (∀g,v'.ownBlock=some g→v.ownBlock=some g∨g=w.heap.size):=by
  intro ba cap hv hold hc;have hr:=run_append_grow_src (P:=P) w t tx ty e i z ht hi hz ba n cap xs hold x m news hs hc (by omega) (growslice_fits (by omega) hbytes);have hge:=grownCap_ge w (n+m) cap e;have hcm:grownCap w (n+m) cap e≤maxLen:=grownCap_le_maxLen w (n+m) cap e (by unfold maxLen;omega);rw[hv];refine⟨_,_,hr,⟨hlen,.inr ⟨w.heap.size,_,_,rfl,hbase,heap_alloc_new w.drew _,hge,hcm,?_,?_⟩⟩,⟨rfl,rfl,rfl,by simp,fun k hk _=>heap_alloc_old w.drew _ hk⟩,fun g hg=> .inr ?_⟩
  ·simp only[Array.size_append,List.size_toArray,size_zeroCells,hzs,hlen,←Nat.add_mul]
   congr 1
   omega
  ·simp only[Array.toList_append];rw[←hlen];exact List.take_left
  ·simp only[Value.ownBlock,Option.some.injEq]at hg;exact hg.symm
 rcases hown.2 with ⟨hv,hn⟩ | ⟨g,cap,cur,hv,hbg,hg,hnc,hcm,hcs,htake⟩
 ·have hx:xs=[]:=List.eq_nil_of_length_eq_zero (by rw[hown.1,hn];simp);by_cases hm:m=0
  ·have hnw:news=[]:=List.eq_nil_of_length_eq_zero (by rw[hs.newsLen,hm];simp);subst hv hn hx hnw hm;refine⟨.slice none 0 0,w,?_,by simpa using World.ownsRow_nil w base e i.size,World.grownBy.refl w _,fun g hg=>by simp[Value.ownBlock]at hg⟩;rcases hs.kind with ⟨e',hk⟩ | hk<;>simp[Builtin.append_,run_underlying ht,run_underlying hk,sizeOf,typeInfo,hi,hs.len,hs.cells]
  ·refine grow none 0 (by rw[hv,hn]) ?_ (by omega);rw[hx,hn];exact run_firstCells_none w.drew i.size 0 0 0
 ·by_cases hroom:n+m≤cap
  ·have hfit:n*i.size+news.length≤cur.size:=by rw[hs.newsLen,hcs,←Nat.add_mul];exact Nat.mul_le_mul_right _ hroom
   have hcell:∀ j (hj:j<news.length),w.cell? ⟨g,0+n*i.size+j,none⟩=some (cur[0+n*i.size+j]'(by rw[Nat.zero_add];exact Nat.lt_of_lt_of_le (Nat.add_lt_add_left hj _) hfit)):=by
    intro j hj;simp only[World.cell?,hg];simp
   have hr:=run_append_room_src (P:=P) w t tx ty e i ht hi g 0 n cap x m news hs hroom (fun j hj=>by rw[hcell j hj];rfl) (fun j hj=>by simp only[World.frozen?,hg];simp);rw[hv];rw[Nat.zero_add]at hr;refine⟨_,_,hr,⟨hlen,.inr ⟨g,cap,_,rfl,hbg,heap_setCells_self g e _ news cur _ w hg,hroom,hcm,by rw[putAll_size,hcs],?_⟩⟩,grownBy_setCells g news _ w,fun g' hg'=> .inl hg'⟩;rw[Nat.add_mul,←hs.newsLen,putAll_take _ _ _ hfit,htake]
  ·refine grow (some ⟨g,0,none⟩) cap hv ?_ (by omega);have holds:∀ j u,xs[j]?=some u→w.drew.cell? ((⟨g,0,none⟩:Addr).add j)=some u:=fun j u hu=>hown.cells (g:=g) (by rw[hv];rfl) j u hu;exact run_firstCells_some w.drew i.size n ⟨g,0,none⟩ n cap xs hown.1 holds
structure Elem(P:Program)(t e:TypeId)(size bytes:Nat):Prop where
 under:P.underlying t=some (.slice e)
 pos:0<bytes
 info:∃ i z,P.info? e=some i∧i.zero=some z∧i.size=size∧i.bytes=bytes∧z.cells.size=size
theorem Elem.of{P:Program}{t e:TypeId}{size bytes:Nat}(h1:P.underlying t=some (.slice e))(h2:((P.info? e).map fun i=>(i.zero.map fun z=>z.cells.size,i.size,i.bytes))=some (some size,size,bytes))(h3:0<bytes:=by decide):Elem P t e size bytes:=by
 refine⟨h1,h3,?_⟩;obtain⟨i,hi,hz⟩:=Option.map_eq_some_iff.1 h2;simp only[Prod.mk.injEq]at hz;obtain⟨z,hz1,hz2⟩:=Option.map_eq_some_iff.1 hz.1;exact⟨i,z,hi,hz1,hz.2.1,hz.2.2,hz2⟩
theorem wp_append_src{P:Program}{w:World}{ops:Array Oper}{rest:List Oper}{o:Oper}{a:Act}{Q:Exit→Act→World→Prop}(hgd:o.guard=none)(s x:Operand)(t tx:TypeId)
  (ho:o.op= .call {callee:= .builtin .append,args:= #[s,x],argTypes:= #[t,tx] }) {e:TypeId} {size bytes:Nat} (hE:Elem P t e size bytes) (base:Nat)
  (v:Value) (n:Nat) (xs:List Value) (hsv:a.eval s=v) (hown:w.ownsRow base e size v n xs)
  (vx:Value) (m:Nat) (news:List Value) (hx:a.eval x=vx) (hs:Src P size tx vx m news w) (h63:n+m≤9223372036854775807) (hbytes:(n+m)*bytes≤140737488355328) (hbase:base≤w.heap.size)
  (h:∀ v' w',w'.ownsRow base e size v' (n+m) (xs++news)→w.grownBy w' v.ownBlock→(∀g,v'.ownBlock=some g→v.ownBlock=some g∨g=w.heap.size)→wpList P ops Q rest (a.put o.dst v') w'):wpList P ops Q (o::rest) a w:=by
 obtain⟨i,z,hi,hz,hsize,hby,hzs⟩:=hE.info;refine wpList_plain hgd fun K hK=>?_;obtain⟨v',w',hr,h2,h3,h4⟩:=append_own_src (P:=P) w base t tx o.type e i z size bytes hE.under hi hz hsize hby hzs v n xs hown vx m news hs h63 hbytes hbase;unfold Oper.wp execOp;simp only[ho,resolve,invoke,builtin,Sem.run_bind,Sem.run_pure,Result.andThen_ok,List.map_toArray,List.map_cons,List.map_nil,hsv,hx,hr];exact hK _ _ (h v' w' h2 h3 h4)
abbrev Mo(S0:Nat→Prop)(n0:Nat)(w:World):Nat→Prop:=fun b=>(S0 b∨n0≤b)∧b<w.heap.size
abbrev Nw(S0:Nat→Prop)(n0:Nat)(w:World)(v:Value):Nat→Prop:=fun b=>(S0 b∨n0≤b)∧b<w.heap.size∧v.ownBlock≠some b
def OwnL{α:Type}(R:Rp α)(S0:Nat→Prop)(n0:Nat)(e:TypeId)(w:World)(v:Value)(l:List α):Prop:=
 ∃css:List (List Value),css.length=l.length∧(∀i (h:i<l.length) (h':i<css.length),R.rel (Nw S0 n0 w v) w css[i] l[i])∧w.ownsRow n0 e R.k v l.length css.flatten
section
variable {α β:Type}{R:Rp α}{S0:Nat→Prop}{n0:Nat}{e:TypeId}{w w' w1 w2:World}{v v':Value}{l:List α}
theorem OwnL.css_len{css:List (List Value)}{S:Nat→Prop}(hl:css.length=l.length)(hr:∀ i (h:i<l.length) (h':i<css.length),R.rel S w css[i] l[i]):∀ cs∈css,cs.length=R.k:=by
 intro cs hcs;obtain⟨i,hi,rfl⟩:=List.getElem_of_mem hcs;exact R.len (hr i (by omega) hi)
theorem OwnL.nil(R:Rp α)(S0:Nat→Prop)(n0:Nat)(e:TypeId)(w:World):OwnL R S0 n0 e w (.slice none 0 0) []:=
 ⟨[],rfl,by simp,by simpa using World.ownsRow_nil w n0 e R.k⟩
theorem OwnL.made(R:Rp α)(S0:Nat→Prop)(n0:Nat)(e:TypeId)(w:World)(cur:Array Value)(cap:Nat)(hn:n0≤w.heap.size)(hm:cap≤maxLen)(hs:cur.size=cap*R.k):
  OwnL R S0 n0 e (w.alloc (.cells cur e)) (.slice (some ⟨w.heap.size,0,none⟩) 0 cap) []:=
 ⟨[],rfl,by simp,by simpa using World.ownsRow_made w cur cap hn hm hs⟩
theorem OwnL.own_lt(h:OwnL R S0 n0 e w v l):∀ g,v.ownBlock=some g→n0≤g∧g<w.heap.size:=by
 obtain⟨css,_,_,hown⟩:=h;exact hown.lt
theorem OwnL.ext(h:OwnL R S0 n0 e w v l)(hx:Ext w w'):OwnL R S0 n0 e w' v l:=by
 obtain⟨css,hl,hr,hown⟩:=h;have hsz:=hx.size;refine⟨css,hl,fun i h1 h2=>R.keep (hr i h1 h2) fun b hb=>⟨⟨hb.1,by omega,hb.2.2⟩,hx.block b hb.2.1⟩,hown.1,?_⟩;rcases hown.2 with h0 | ⟨g,cap,cur,hv',hb,hg,rest⟩
 ·exact .inl h0
 ·exact .inr ⟨g,cap,cur,hv',hb,by rw[hx.block g (by have:=(Array.getElem?_eq_some_iff.1 hg).1;exact this)];exact hg,rest⟩
theorem OwnL.shape(h:OwnL R S0 n0 e w v l):∃ a c,v= .slice a l.length c∧l.length≤c∧c≤maxLen:=by
 obtain⟨css,hl,hr,hown⟩:=h;rcases hown.2 with ⟨h0,h1⟩ | ⟨g,cap,cur,hv',hb,hg,h1,h2,_⟩
 ·exact⟨none,0,by rw[h0,h1],by omega,by simp[maxLen]⟩
 ·exact⟨_,_,hv',h1,h2⟩
theorem OwnL.take{R':Rp β}{x:β}{cs:List Value}(h:OwnL R S0 n0 e w1 v l)(hn:n0≤w1.heap.size)(hx:R'.rel (Mo (Nw S0 n0 w1 v) w1.heap.size w2) w2 cs x):R'.rel (Nw S0 n0 w2 v) w2 cs x:=by
 refine R'.mono hx fun b hb=>?_;rcases hb.1 with h1 | h1
 ·exact⟨h1.1,hb.2,h1.2.2⟩
 ·exact⟨.inr (by omega),hb.2,fun hv=>by have:=(h.own_lt b hv).2;omega⟩
theorem OwnL.fresh{R':Rp β}{x:β}{cs:List Value}{m:Nat}(h:OwnL R S0 n0 e w v l)(hn:n0≤w.heap.size)(hx:R'.rel (Mo (fun _=>False) m w1) w1 cs x)(hm:w.heap.size≤m)(hsz:w1.heap.size≤w2.heap.size)
  (hk:∀ b,m≤b→w2.heap[b]?=w1.heap[b]?):R'.rel (Nw S0 n0 w2 v) w2 cs x:=
 R'.keep hx fun b hb=>by
  have h1:m≤b:=hb.1.resolve_left id;exact⟨⟨.inr (by omega),by omega,fun hv=>by have:=(h.own_lt b hv).2;omega⟩,hk b h1⟩
theorem OwnL.shut(h:OwnL R S0 n0 e w v l):(Rp.slice R).rel (Mo S0 n0 w) w [v] l:=by
 have hlt:=h.own_lt;obtain⟨css,hl,hr,hown⟩:=h;have hcl:=OwnL.css_len hl hr;rcases hown.2 with ⟨rfl,h0⟩ | ⟨g,cap,cur,rfl,hb,hg,hnc,hcm,_⟩
 ·refine⟨none,0,by rw[h0],by omega,by simp[maxLen],fun hp=>by omega⟩
 ·refine⟨_,cap,rfl,hnc,hcm,fun _=>⟨g,0,rfl,⟨.inr hb,(hlt g rfl).2⟩,fun i hi=>?_⟩⟩;have hi':i<css.length:=by omega
  refine⟨css[i],R.mono (hr i hi hi') (fun b hb=>⟨hb.1,hb.2.1⟩),fun j hj=>?_⟩;have hj':j<R.k:=by rw[←hcl css[i] (List.getElem_mem hi')];exact hj
  have:=hown.cells (g:=g) rfl (i*R.k+j) (css[i][j]) (by rw[flatten_get hcl i j hi' hj'];exact List.getElem?_eq_getElem hj);rw[Addr.add_lit]at this;exact this
theorem OwnL.pushed{x:α}{es:List Value}(hl0:∃ css:List (List Value),css.length=l.length∧(∀i (h:i<l.length) (h':i<css.length),R.rel (Nw S0 n0 w v) w css[i] l[i])∧w'.ownsRow n0 e R.k v' (l.length+1) (css.flatten++es))
  (hx:R.rel (Nw S0 n0 w v) w es x) (hg:w.grownBy w' v.ownBlock) (hv:∀ g,v'.ownBlock=some g→v.ownBlock=some g∨w.heap.size≤g):OwnL R S0 n0 e w' v' (l++[x]):=by
 obtain⟨css,hl,hr,hown⟩:=hl0;have hk:∀ b,Nw S0 n0 w v b→Nw S0 n0 w' v' b∧w'.heap[b]?=w.heap[b]?:=fun b hb=>
  ⟨⟨hb.1,by have:=hg.size;omega,fun h=>by rcases hv b h with h | h;exact hb.2.2 h;omega⟩,hg.block b hb.2.1 (fun e=>hb.2.2 e.symm)⟩
 refine⟨css++[es],by simp[hl],fun i h1 h2=>?_,by simpa using hown⟩;by_cases hi:i<l.length
 ·rw[List.getElem_append_left (by omega),List.getElem_append_left hi];exact R.keep (hr i hi (by omega)) hk
 ·rw[List.getElem_append_right (by omega),List.getElem_append_right (by omega)];simp only[List.getElem_singleton];exact R.keep hx hk
end
structure Upd(w w':World)(v v':Value):Prop where
 os:w'.os=w.os
 tape:w'.tape=w.tape
 output:w'.output=w.output
 size:w.heap.size≤w'.heap.size
 block:∀ k,k<w.heap.size→v.ownBlock≠some k→w'.heap[k]?=w.heap[k]?
 own:∀ g,v'.ownBlock=some g→v.ownBlock=some g∨w.heap.size≤g
theorem Upd.refl(w:World)(v:Value):Upd w w v v:=⟨rfl,rfl,rfl,Nat.le_refl _,fun _ _ _=>rfl,fun _ h=> .inl h⟩
theorem Upd.tr{a b c:World}{u v x:Value}(h:Upd a b u v)(k:Upd b c v x):Upd a c u x:=
 ⟨k.os.trans h.os,k.tape.trans h.tape,k.output.trans h.output,Nat.le_trans h.size k.size,
  fun i hi hu=>(k.block i (by have:=h.size;omega) (fun hv=>by rcases h.own i hv with h1 | h1;exact hu h1;omega)).trans (h.block i hi hu),
  fun g hg=>by rcases k.own g hg with h1 | h1;exact h.own g h1;have:=h.size;omega⟩
theorem Upd.below{w w':World}{v v':Value}{n0:Nat}(h:Upd w w' v v')(hn:n0≤w.heap.size)(hv:∀ g,v.ownBlock=some g→n0≤g):Below n0 w w':=
 ⟨h.os,h.tape,h.output,h.size,fun k hk=>h.block k (by omega) (fun e=>by have:=hv k e;omega)⟩
abbrev Apart(w:World)(v:Value):Nat→Prop:=fun b=>b<w.heap.size∧v.ownBlock≠some b
theorem Upd.rel{α:Type}{R:Rp α}{w w':World}{v v':Value}(h:Upd w w' v v'){cs:List Value}{x:α}(hx:R.rel (Apart w v) w cs x):R.rel (Apart w' v') w' cs x:=
 R.keep hx fun b hb=>⟨⟨by have:=h.size;have:=hb.1;omega,fun e=>by rcases h.own b e with h1 | h1;exact hb.2 h1;have:=hb.1;omega⟩,h.block b hb.1 hb.2⟩
theorem wp_push{α:Type}{R:Rp α}{P:Program}{w:World}{ops:Array Oper}{rest:List Oper}{o:Oper}{a:Act}{Q:Exit→Act→World→Prop}(hgd:o.guard=none)(s x:Operand)(t:TypeId)
  (hop:o.op= .call {callee:= .builtin .append,args:= #[s,x],argTypes:= #[t,t] })
  {e:TypeId} {bytes:Nat} (hE:Elem P t e R.k bytes) {S0:Nat→Prop} {n0 g:Nat} {v:Value} {cs:Array Value} {l:List α} {y:α}
  (hx:a.eval x= .slice (some ⟨g,0,none⟩) 1 1) (hs:a.eval s=v) (hown:OwnL R S0 n0 e w v l) (hg:g=w.heap.size)
  (hrel:R.rel (Nw S0 n0 w v) w cs.toList y) (hby:(l.length+1)*bytes≤140737488355328) (hn:n0≤w.heap.size)
  (h:∀ v' w',OwnL R S0 n0 e w' v' (l++[y])→Upd w w' v v'→Below n0 w w'→wpList P ops Q rest (a.put o.dst v') w'):
  wpList P ops Q (o::rest) a (w.alloc (.cells cs e)):=by
 subst hg;have hlen:l.length+1≤9223372036854775807:=by
  have:=Nat.le_mul_of_pos_right (l.length+1) hE.pos;omega
 have hxl:cs.size=R.k:=by rw[←Array.length_toList];exact R.len hrel
 have hlt:=hown.own_lt;obtain⟨css,hl,hr,hrow0⟩:=id hown;have hrow:=hrow0.alloc (.cells cs e);have hcell:∀ j u,cs.toList[j]?=some u→(w.alloc (.cells cs e)).cell? ((⟨w.heap.size,0,none⟩:Addr).add j)=some u:=by
  intro j u hu;rw[Addr.add_lit];simp only[World.cell?,heap_alloc_new];simpa using hu
 refine wp_append_src hgd s x t t hop hE n0 v l.length css.flatten hs hrow _ 1 cs.toList hx
  (Src.ofSlice _ hE.under _ 1 1 cs.toList (by rw[Array.length_toList,hxl,Nat.one_mul]) hcell (R.one hrel)) hlen hby (by simp;omega) fun v' w' r1 r2 r3=>?_
 have hgb:w.grownBy w' v.ownBlock:=⟨r2.os,r2.tape,r2.output,by have:=r2.size;simp at this;omega,fun k hk hne=>by
  rw[r2.block k (by simp;omega) hne];exact heap_alloc_old w _ hk⟩
 have hv:∀ g,v'.ownBlock=some g→v.ownBlock=some g∨w.heap.size≤g:=fun g hg=>by
  rcases r3 g hg with h1 | h1
  ·exact .inl h1
  ·right;simp at h1;omega
 have hU:Upd w w' v v':=⟨hgb.os,hgb.tape,hgb.output,hgb.size,fun k hk hne=>hgb.block k hk (fun e=>hne e.symm),hv⟩
 exact h v' w' (OwnL.pushed ⟨css,hl,hr,r1⟩ hrel hgb hv) hU (hU.below hn fun g hg=>(hlt g hg).1)
def Rp.u8:Rp UInt8 where
 k:=1
 rel _ _ cs c:=cs=[.int .u8 c.toNat]
 len h:=by subst h;rfl
 one h:=by subst h;simp[Value.oneCell']
 keep h _:=h
def byteV(l:List UInt8):List Value:=l.map fun c=> .int .u8 c.toNat
theorem u8_row{S0:Nat→Prop}{n0:Nat}{e:TypeId}{w:World}{v:Value}{xs:List UInt8}:OwnL Rp.u8 S0 n0 e w v xs↔w.ownsRow n0 e 1 v xs.length (byteV xs):=by
 constructor
 ·rintro ⟨css,hl,hr,hown⟩;have e1:css=xs.map fun c=>[.int .u8 c.toNat]:=by
   refine List.ext_getElem (by simp[hl]) fun i h1 h2=>?_;rw[show css[i]=_ from hr i (by simpa using h2) h1];simp
  have e2:css.flatten=byteV xs:=by
   rw[e1];clear e1 hl hr hown
   induction xs with
   | nil=>rfl
   | cons c r ih=>simpa[byteV] using ih
  rw[e2]at hown;exact hown
 ·intro hown;refine⟨xs.map fun c=>[.int .u8 c.toNat],by simp,fun i h1 h2=>by simp[Rp.u8],?_⟩;have e2:(xs.map fun c=>[Value.int .u8 c.toNat]).flatten=byteV xs:=by
   clear hown
   induction xs with
   | nil=>rfl
   | cons c r ih=>simpa[byteV] using ih
  rw[e2];exact hown
theorem OwnL.toStr{P:Program}{S0:Nat→Prop}{n0:Nat}{e:TypeId}{w:World}{v:Value}{xs:List UInt8}(h:OwnL Rp.u8 S0 n0 e w v xs)(src dst:TypeId)(hs:P.underlying src=some (.slice e))(he:P.underlying e=some (.int .u8))(hd:P.underlying dst=some .string):
  (convert src dst v).run P w= .ok (.string ⟨xs.toArray⟩) w:=by
 have hrow:=u8_row.1 h;rcases hrow.2 with ⟨rfl,h0⟩ | ⟨g,cap,cur,rfl,hb,hg,_⟩
 ·have:xs=[]:=List.eq_nil_of_length_eq_zero h0;subst this;exact run_convert_bytes_nil w src e hs he 0 0 dst hd
 ·refine run_convert_bytes_back w src dst e _ cap xs hs he hd fun j hj=>?_;exact hrow.cells (g:=g) rfl j _ (by simp[byteV,List.getElem?_eq_getElem hj])
theorem choose_list{α:Type}{p:Nat→α→Prop}:∀ (n:Nat),(∀i,i<n→∃ x,p i x)→∃ l:List α,l.length=n∧∀ i (h:i<l.length),p i l[i]
 | 0,_=>⟨[],rfl,fun i h=>absurd h (by simp)⟩
 | n+1,h=>by
   obtain⟨l,hl,hp⟩:=choose_list n (fun i hi=>h i (by omega));obtain⟨x,hx⟩:=h n (by omega);refine⟨l++[x],by simp[hl],fun i hi=>?_⟩;by_cases hi':i<l.length
   ·rw[List.getElem_append_left hi'];exact hp i hi'
   ·have:i=n:=by simp at hi;omega
    subst this;rw[List.getElem_append_right (by omega)];simpa[hl] using hx
theorem slice_cells{α:Type}{R:Rp α}{S:Nat→Prop}{w:World}{a:Option Addr}{n c:Nat}{l:List α}(h:(Rp.slice R).rel S w [.slice a n c] l):
  n=l.length∧n≤c∧c≤maxLen∧∃ css:List (List Value),css.length=l.length∧(∀i (h:i<l.length) (h':i<css.length),R.rel S w css[i] l[i])∧
   (0<n→∃ b o,a=some ⟨b,o,none⟩∧S b∧∀ j u,css.flatten[j]?=some u→w.cell? ⟨b,o+j,none⟩=some u):=by
 obtain⟨a',c',e,h1,h2,h3⟩:=h;injection e with e;injection e with e1 e2 e3;subst e1 e2 e3;refine⟨rfl,h1,h2,?_⟩;by_cases h0:0<l.length
 ·obtain⟨b,o,ha,hb,hel⟩:=h3 h0;obtain⟨css,hcl,hcs⟩:=choose_list (p:=fun i es=>∀ h:i<l.length,R.rel S w es l[i]∧∀ j (hj:j<es.length),w.cell? ⟨b,o+(i*R.k+j),none⟩=some es[j]) l.length (fun i hi=>by
   obtain⟨es,he1,he2⟩:=hel i hi;exact⟨es,fun _=>⟨he1,he2⟩⟩)
  have hr:∀ i (h:i<l.length) (h':i<css.length),R.rel S w css[i] l[i]:=fun i h h'=>(hcs i h' h).1;have hk:=OwnL.css_len hcl hr;refine⟨css,hcl,hr,fun _=>⟨b,o,ha,hb,fun j u hj=>?_⟩⟩;have hjl:j<css.flatten.length:=(List.getElem?_eq_some_iff.1 hj).1;rw[flatten_len hk]at hjl;have hkp:0<R.k:=by
   rcases Nat.eq_zero_or_pos R.k with h | h
   ·rw[h]at hjl;simp at hjl
   ·exact h
  have hi:j / R.k<css.length:=Nat.div_lt_of_lt_mul (by rw[Nat.mul_comm];exact hjl);have hm:j % R.k<R.k:=Nat.mod_lt _ hkp;have hd:j / R.k*R.k+j % R.k=j:=by rw[Nat.mul_comm];exact Nat.div_add_mod j R.k
  have h4:=flatten_get hk (j / R.k) (j % R.k) hi hm;rw[hd,hj]at h4;have h5:=List.getElem?_eq_some_iff.1 h4.symm;obtain⟨h6,h7⟩:=h5;have h8:=(hcs (j / R.k) hi (by omega)).2 (j % R.k) h6;rw[hd,h7]at h8;exact h8
 ·have:l=[]:=List.eq_nil_of_length_eq_zero (by omega);subst this;exact⟨[],rfl,fun i h=>absurd h (by simp),fun h=>absurd h (by simp)⟩
def SlC{α:Type}(R:Rp α)(S:Nat→Prop)(w:World)(a:Option Addr)(n:Nat)(l:List α):Prop:=
 n=l.length∧∃ css:List (List Value),css.length=l.length∧(∀i (h:i<l.length) (h':i<css.length),R.rel S w css[i] l[i])∧
  (0<n→∃ b o,a=some ⟨b,o,none⟩∧∀ j u,css.flatten[j]?=some u→w.cell? ⟨b,o+j,none⟩=some u)
theorem SlC.of_rel{α:Type}{R:Rp α}{S:Nat→Prop}{w:World}{a:Option Addr}{n c:Nat}{l:List α}(h:(Rp.slice R).rel S w [.slice a n c] l):SlC R S w a n l:=by
 obtain⟨h1,_,_,css,h2,h3,h4⟩:=slice_cells h;exact⟨h1,css,h2,h3,fun hp=>by obtain⟨b,o,ha,_,hc⟩:=h4 hp;exact⟨b,o,ha,hc⟩⟩
theorem SlC.keep{α:Type}{R:Rp α}{S S':Nat→Prop}{w w':World}{a:Option Addr}{n:Nat}{l:List α}(h:SlC R S w a n l)(hs:∀ b,S b→S' b∧w'.heap[b]?=w.heap[b]?)(ha:∀ g,a.map (·.block)=some g→w'.heap[g]?=w.heap[g]?):SlC R S' w' a n l:=by
 obtain⟨h1,css,h2,h3,h4⟩:=h;exact⟨h1,css,h2,fun i h h'=>R.keep (h3 i h h') hs,fun hp=>by
  obtain⟨b,o,e,hc⟩:=h4 hp;exact⟨b,o,e,fun j u hj=>(World.cell?_of_block (w:=w) (ha b (by rw[e];rfl))).trans (hc j u hj)⟩⟩
theorem SlC.lit{α:Type}{R:Rp α}{S:Nat→Prop}{w:World}{cs:Array Value}{e:TypeId}{l:List α}(css:List (List Value))(hl:css.length=l.length)(hr:∀ i (h:i<l.length) (h':i<css.length),R.rel S (w.alloc (.cells cs e)) css[i] l[i])(hcs:cs.toList=css.flatten):
  SlC R S (w.alloc (.cells cs e)) (some ⟨w.heap.size,0,none⟩) l.length l:=by
 refine⟨rfl,css,hl,hr,fun _=>⟨_,_,rfl,fun j u hj=>?_⟩⟩;rw[←hcs]at hj;simp only[World.cell?,heap_alloc_new];simpa using hj
theorem wp_append_all{α:Type}{R:Rp α}{P:Program}{w:World}{ops:Array Oper}{rest:List Oper}{o:Oper}{a:Act}{Q:Exit→Act→World→Prop}(hgd:o.guard=none)(s x:Operand)(t:TypeId)
  (hop:o.op= .call {callee:= .builtin .append,args:= #[s,x],argTypes:= #[t,t] })
  {e:TypeId} {bytes:Nat} (hE:Elem P t e R.k bytes) {S0:Nat→Prop} {n0:Nat} {v:Value} {l l2:List α} {xa:Option Addr} {xn xc:Nat}
  (hx:a.eval x= .slice xa xn xc) (hs:a.eval s=v) (hown:OwnL R S0 n0 e w v l)
  (hrel:SlC R (Nw S0 n0 w v) w xa xn l2) (hby:(l.length+l2.length)*bytes≤140737488355328) (hn:n0≤w.heap.size)
  (h:∀ v' w',OwnL R S0 n0 e w' v' (l++l2)→Upd w w' v v'→Below n0 w w'→wpList P ops Q rest (a.put o.dst v') w'):
  wpList P ops Q (o::rest) a w:=by
 have hlen:l.length+l2.length≤9223372036854775807:=by
  have:=Nat.le_mul_of_pos_right (l.length+l2.length) hE.pos;omega
 have hlt:=hown.own_lt;obtain⟨css,hl,hr,hrow⟩:=id hown;obtain⟨hxn,cs2,hl2,hr2,hc2⟩:=hrel;have hk2:=OwnL.css_len hl2 hr2;have hone:∀ u∈cs2.flatten,u.oneCell'=true:=by
  intro u hu;obtain⟨es,h1,h2⟩:=List.mem_flatten.1 hu;obtain⟨i,hi,rfl⟩:=List.getElem_of_mem h1;exact R.one (hr2 i (by omega) hi) u h2
 have hfl:cs2.flatten.length=xn*R.k:=by rw[flatten_len hk2,hl2,hxn]
 have hsrc:Src P R.k t (.slice xa xn xc) xn cs2.flatten w:=by
  cases xa with
  | some ad=>
    refine Src.ofSlice _ hE.under ad xn xc _ hfl (fun j u hj=>?_) hone;rcases Nat.eq_zero_or_pos xn with h0 | h0
    ·subst h0;have:cs2.flatten=[]:=List.eq_nil_of_length_eq_zero (by rw[hfl];simp);rw[this]at hj;simp at hj
    ·obtain⟨b,o,ha,hc⟩:=hc2 h0;injection ha with ha;subst ha;have:=hc j u hj;rw[show (⟨b,o,none⟩:Addr).add j=⟨b,o+j,none⟩by unfold Addr.add;split<;>simp_all];exact this
  | none=>
    have h0:xn=0:=by
     rcases Nat.eq_zero_or_pos xn with h0 | h0
     ·exact h0
     ·obtain⟨b,o,ha,_⟩:=hc2 h0;cases ha
    subst h0;have:cs2.flatten=[]:=List.eq_nil_of_length_eq_zero (by rw[hfl];simp);rw[this];exact Src.ofNil _ hE.under xc
 refine wp_append_src hgd s x t t hop hE n0 v l.length css.flatten hs hrow _ xn cs2.flatten hx hsrc (by omega) (by rw[hxn];exact hby) hn fun v' w' r1 r2 r3=>?_;have hv:∀ g,v'.ownBlock=some g→v.ownBlock=some g∨w.heap.size≤g:=fun g hg=>by
  rcases r3 g hg with h1 | h1
  ·exact .inl h1
  ·right;omega
 have hU:Upd w w' v v':=⟨r2.os,r2.tape,r2.output,r2.size,fun k hk hne=>r2.block k hk (fun e=>hne e.symm),hv⟩
 have hk:∀ b,Nw S0 n0 w v b→Nw S0 n0 w' v' b∧w'.heap[b]?=w.heap[b]?:=fun b hb=>
  ⟨⟨hb.1,by have:=hU.size;have:=hb.2.1;omega,fun e=>by rcases hv b e with h1 | h1;exact hb.2.2 h1;have:=hb.2.1;omega⟩,hU.block b hb.2.1 hb.2.2⟩
 refine h v' w' ⟨css++cs2,by simp[hl,hl2],fun i h1 h2=>?_,by rw[List.length_append,List.flatten_append,←hxn];exact r1⟩ hU (hU.below hn fun g hg=>(hlt g hg).1);by_cases hi:i<l.length
 ·rw[List.getElem_append_left (by omega),List.getElem_append_left hi];exact R.keep (hr i hi (by omega)) hk
 ·rw[List.getElem_append_right (by omega),List.getElem_append_right (by omega)];simp only[hl];exact R.keep (hr2 _ (by simp at h1;omega) (by simp at h2;omega)) hk
def get?{α:Type}:List (Nat×α)→Nat→Option α
 | [],_=>none
 | (k,v)::r,t=>bif Nat.beq k t then some v else get? r t
theorem get?_cons{α:Type}(k:Nat)(v:α)(r:List (Nat×α))(t:Nat):get? ((k,v)::r) t=if k=t then some v else get? r t:=by
 simp only[get?];by_cases h:k=t
 ·subst h;simp
 ·have:Nat.beq k t=false:=by
   cases e:Nat.beq k t with
   | false=>rfl
   | true=>exact absurd (Nat.eq_of_beq_eq_true e) h
  simp[h,this]
theorem get?_mem{α:Type}{l:List (Nat×α)}{t:Nat}{v:α}(h:get? l t=some v):(t,v)∈l:=by
 induction l with
 | nil=>simp[get?]at h
 | cons x r ih=>
   obtain⟨k,u⟩:=x;rw[get?_cons]at h;by_cases hk:k=t
   ·rw[if_pos hk]at h;injection h with h;subst hk h;simp
   ·rw[if_neg hk]at h;exact List.mem_cons_of_mem _ (ih h)
inductive D where
 | v (x:Value)
 | l (xs:List (List D))
 | n
 deriving Inhabited
def D.fg:D→D
 | .n=> .l []
 | d=>d
inductive RD (S:Nat→Prop) (w:World):Value→D→Prop
 | v {x:Value} (h:x.oneCell'=true):RD S w x (.v x)
 | n:RD S w (.slice none 0 0) .n
 | l {a:Option Addr} {n c:Nat} {xs:List (List D)} (k:Nat) (us:Nat→Nat→Value) (hn:n=xs.length) (hc:n≤c) (hm:c≤maxLen) (hk:∀ i (h:i<xs.length),xs[i].length=k)
    (ha:0<n→∃ b o,a=some ⟨b,o,none⟩∧S b∧∀ i (h:i<xs.length) j,j<xs[i].length→w.cell? ⟨b,o+(i*k+j),none⟩=some (us i j))
    (he:∀ i (h:i<xs.length) j (hj:j<xs[i].length),RD S w (us i j) (xs[i])[j]):RD S w (.slice a n c) (.l xs)
theorem RD.keep{S S':Nat→Prop}{w w':World}{u:Value}{d:D}(h:RD S w u d)(hs:∀ b,S b→S' b∧w'.heap[b]?=w.heap[b]?):RD S' w' u d:=by
 induction h with
 | v h=>exact .v h
 | n=>exact .n
 | l k us hn hc hm hk ha he ih=>
   refine .l k us hn hc hm hk (fun hp=>?_) (fun i h j hj=>ih i h j hj);obtain⟨b,o,e,hb,hcell⟩:=ha hp;exact⟨b,o,e,(hs b hb).1,fun i h j hj=>(World.cell?_of_block (w:=w) (hs b hb).2).trans (hcell i h j hj)⟩
theorem RD.mono{S S':Nat→Prop}{w:World}{u:Value}{d:D}(h:RD S w u d)(hs:∀ b,S b→S' b):RD S' w u d:=h.keep fun b hb=>⟨hs b hb,rfl⟩
theorem RD.one{S:Nat→Prop}{w:World}{u:Value}{d:D}(h:RD S w u d):u.oneCell'=true:=by
 cases h<;>first | assumption | rfl
theorem RD.fg{S:Nat→Prop}{w:World}{u:Value}{d:D}(h:RD S w u d):RD S w u d.fg:=by
 cases h with
 | v h=>exact .v h
 | n=>exact .l 0 (fun _ _=>undef) rfl (Nat.le_refl _) (by simp[maxLen]) (fun i h=>absurd h (by simp)) (fun h=>absurd h (by simp)) (fun i h=>absurd h (by simp))
 | l k us hn hc hm hk ha he=>exact .l k us hn hc hm hk ha he
def RDs(S:Nat→Prop)(w:World)(us:List Value)(ds:List D):Prop:=us.length=ds.length∧∀ i (h:i<us.length) (h':i<ds.length),RD S w us[i] ds[i]
section
variable {S S':Nat→Prop}{w w':World}{us vs:List Value}{ds es:List D}
theorem RDs.keep(h:RDs S w us ds)(hs:∀ b,S b→S' b∧w'.heap[b]?=w.heap[b]?):RDs S' w' us ds:=⟨h.1,fun i h1 h2=>(h.2 i h1 h2).keep hs⟩
theorem RDs.mono(h:RDs S w us ds)(hs:∀ b,S b→S' b):RDs S' w us ds:=h.keep fun b hb=>⟨hs b hb,rfl⟩
theorem RDs.one(h:RDs S w us ds):∀ u∈us,u.oneCell'=true:=by
 intro u hu;obtain⟨i,hi,rfl⟩:=List.getElem_of_mem hu;exact(h.2 i hi (by rw[←h.1];exact hi)).one
theorem RDs.nil:RDs S w [] []:=⟨rfl,fun i h=>absurd h (by simp)⟩
theorem RDs.cons{u:Value}{d:D}(h:RD S w u d)(k:RDs S w us ds):RDs S w (u::us) (d::ds):=by
 refine⟨by simp[k.1],fun i h1 h2=>?_⟩;cases i with
 | zero=>exact h
 | succ i=>exact k.2 i (by simpa using h1) (by simpa using h2)
theorem RDs.app(h:RDs S w us ds)(k:RDs S w vs es):RDs S w (us++vs) (ds++es):=by
 refine⟨by simp[h.1,k.1],fun i h1 h2=>?_⟩;by_cases hi:i<us.length
 ·rw[List.getElem_append_left hi,List.getElem_append_left (by rw[←h.1];exact hi)];exact h.2 _ _ _
 ·rw[List.getElem_append_right (by omega),List.getElem_append_right (by rw[←h.1];omega)];simp only[h.1];exact k.2 _ _ _
theorem RDs.fg(h:RDs S w us ds):RDs S w us (ds.map D.fg):=⟨by simp[h.1],fun i h1 h2=>by rw[List.getElem_map];exact(h.2 i h1 (by simpa using h2)).fg⟩
theorem RDs.take(h:RDs S w us ds)(n:Nat):RDs S w (us.take n) (ds.take n):=⟨by simp[h.1],fun i h1 h2=>by rw[List.getElem_take,List.getElem_take];exact h.2 _ _ _⟩
theorem RDs.drop(h:RDs S w us ds)(n:Nat):RDs S w (us.drop n) (ds.drop n):=⟨by simp[h.1],fun i h1 h2=>by rw[List.getElem_drop,List.getElem_drop];exact h.2 _ _ _⟩
theorem RDs.at{i:Nat}{d:D}(h:RDs S w us ds)(hi:ds[i]?=some d):∃ u,us[i]?=some u∧RD S w u d:=by
 obtain⟨h1,h2⟩:=List.getElem?_eq_some_iff.1 hi;have h3:i<us.length:=by rw[h.1];exact h1
 exact⟨us[i],List.getElem?_eq_getElem h3,by rw[←h2];exact h.2 i h3 h1⟩
end
theorem RD.nil{S:Nat→Prop}{w:World}:RD S w (.slice none 0 0) (.l []):=(RD.n (S:=S) (w:=w)).fg
theorem RD.cells{S:Nat→Prop}{w:World}{a:Option Addr}{n c:Nat}{xs:List (List D)}(h:RD S w (.slice a n c) (.l xs)):
  n=xs.length∧n≤c∧c≤maxLen∧∃ (k:Nat) (css:List (List Value)),css.length=xs.length∧(∀i (h:i<xs.length),xs[i].length=k)∧(∀i (h:i<css.length) (h':i<xs.length),RDs S w css[i] xs[i])∧
   (0<n→∃ b o,a=some ⟨b,o,none⟩∧S b∧∀ i (h:i<css.length),w.rangeAt b (o+i*k) css[i]):=by
 cases h with
 | l k us hn hc hm hk ha he=>
   refine⟨hn,hc,hm,k,xs.zipIdx.map (fun x=>(List.range x.1.length).map fun j=>us x.2 j),by simp,hk,fun i h h'=>⟨by simp,fun j h1 h2=>?_⟩,fun hp=>?_⟩
   ·simp only[List.getElem_map,List.getElem_zipIdx,List.getElem_range,Nat.zero_add];exact he i h' j h2
   ·obtain⟨b,o,e,hb,hcell⟩:=ha hp;refine⟨b,o,e,hb,fun i h j v hv=>?_⟩;have h':i<xs.length:=by simpa using h
    simp only[List.getElem_map,List.getElem_zipIdx,Nat.zero_add]at hv;obtain⟨hj,hv⟩:=List.getElem?_eq_some_iff.1 hv;simp at hj hv;rw[←hv,←hcell i h' j hj]
    congr 2
    omega
theorem RD.ofCells{S:Nat→Prop}{w:World}{a:Option Addr}{n c k:Nat}{xs:List (List D)}{css:List (List Value)}(hn:n=xs.length)(hc:n≤c)(hm:c≤maxLen)(hl:css.length=xs.length)(hk:∀ i (h:i<xs.length),xs[i].length=k)
  (hr:∀ i (h:i<css.length) (h':i<xs.length),RDs S w css[i] xs[i]) (ha:0<n→∃ b o,a=some ⟨b,o,none⟩∧S b∧∀ i (h:i<css.length),w.rangeAt b (o+i*k) css[i]):RD S w (.slice a n c) (.l xs):=by
 refine .l k (fun i j=>(css.getD i []).getD j undef) hn hc hm hk (fun hp=>?_) (fun i h j hj=>?_)
 ·obtain⟨b,o,e,hb,hcell⟩:=ha hp;refine⟨b,o,e,hb,fun i h j hj=>?_⟩;have h1:i<css.length:=by omega
  have h2:j<(css[i]).length:=by rw[(hr i h1 h).1];exact hj
  have:=hcell i h1 j _ (List.getElem?_eq_getElem h2);rw[←Nat.add_assoc,this];simp[List.getD_eq_getElem?_getD,List.getElem?_eq_getElem h1,List.getElem?_eq_getElem h2]
 ·have h1:i<css.length:=by omega
  have h2:j<(css[i]).length:=by rw[(hr i h1 h).1];exact hj
  have:=(hr i h1 h).2 j h2 hj;simpa[List.getD_eq_getElem?_getD,List.getElem?_eq_getElem h1,List.getElem?_eq_getElem h2] using this
inductive DV where
 | d (c:D)
 | g (cs:List D)
 deriving Inhabited
inductive AV where
 | d (c:D)
 | g (cs:List D)
 | t (xs:List DV)
 | p (id off:Nat)
 | r (id gen:Nat)
 | e (id gen idx off:Nat)
 | q (cs:List D)
 | un
 deriving Inhabited
inductive AO where
 | box (T:TypeId) (cs:List AV)
 | row (gen:Nat) (e:TypeId) (k:Nat) (xs:List (List D))
 | dead
 | own (x:Value) (R:(Nat→Prop)→World→Prop)
 deriving Inhabited
def RV(S:Nat→Prop)(w:World)(u:Value):DV→Prop
 | .d c=>RD S w u c
 | .g cs=>∃ us:List Value,u= .agg us.toArray∧RDs S w us cs
theorem RV.keep{S S':Nat→Prop}{w w':World}{u:Value}{x:DV}(h:RV S w u x)(hs:∀ b,S b→S' b∧w'.heap[b]?=w.heap[b]?):RV S' w' u x:=by
 cases x with
 | d c=>exact RD.keep h hs
 | g cs=>obtain⟨us,h1,h2⟩:=h;exact⟨us,h1,h2.keep hs⟩
def RA(S:Nat→Prop)(w:World)(β:Nat→Value)(O:List (Nat×AO))(u:Value):AV→Prop
 | .d c=>RD S w u c
 | .g cs=>∃ us:List Value,u= .agg us.toArray∧RDs S w us cs
 | .t xs=>∃ us:List Value,u= .tuple us.toArray∧us.length=xs.length∧∀ i (h:i<us.length) (h':i<xs.length),RV S w us[i] xs[i]
 | .p id off=>∀ T cs,get? O id=some (.box T cs)→∃ b,β id= .pointer (some ⟨b,0,none⟩)∧u= .pointer (some ⟨b,off,none⟩)
 | .r id g=>∀ g' e k xs,get? O id=some (.row g' e k xs)→g≤g'∧(g=g'→u=β id)
 | .e id g idx off=>∀ g' e k xs,get? O id=some (.row g' e k xs)→g≤g'∧(g=g'→∃ b n c,β id= .slice (some ⟨b,0,none⟩) n c∧u= .pointer (some ⟨b,idx*k+off,none⟩))
 | .q cs=>∃ b o us,u= .pointer (some ⟨b,o,none⟩)∧S b∧RDs S w us cs∧w.rangeAt b o us
 | .un=>True
theorem range_keep{w w':World}{b o:Nat}{us:List Value}(h:w.rangeAt b o us)(hb:w'.heap[b]?=w.heap[b]?):w'.rangeAt b o us:=fun j v hv=>(World.cell?_of_block (w:=w) (a:=⟨b,o+j,none⟩) hb).trans (h j v hv)
theorem RA.keep{S S':Nat→Prop}{w w':World}{β β':Nat→Value}{O O':List (Nat×AO)}{u:Value}{x:AV}(h:RA S w β O u x)(hs:∀ b,S b→S' b∧w'.heap[b]?=w.heap[b]?)
  (hb:∀ id T cs,get? O' id=some (.box T cs)→(∃T' cs',get? O id=some (.box T' cs'))∧β' id=β id)
  (hr:∀ id g e k xs,get? O' id=some (.row g e k xs)→∃ g0 e0 k0 xs0,get? O id=some (.row g0 e0 k0 xs0)∧g0≤g∧(g0=g→k0=k∧β' id=β id)):RA S' w' β' O' u x:=by
 cases x with
 | d c=>exact RD.keep h hs
 | g cs=>obtain⟨us,h1,h2⟩:=h;exact⟨us,h1,h2.keep hs⟩
 | t xs=>obtain⟨us,h1,h2,h3⟩:=h;exact⟨us,h1,h2,fun i h h'=>(h3 i h h').keep hs⟩
 | p id off=>intro T cs hO;obtain⟨⟨T',cs',h1⟩,h2⟩:=hb id T cs hO;rw[h2];exact h T' cs' h1
 | r id g=>
   intro g' e k xs hO;obtain⟨g0,e0,k0,xs0,h1,h2,h3⟩:=hr id g' e k xs hO;obtain⟨h4,h5⟩:=h g0 e0 k0 xs0 h1;refine⟨Nat.le_trans h4 h2,fun hg=>?_⟩;have e1:g0=g':=by omega
   rw[(h3 e1).2];exact h5 (by omega)
 | e id g idx off=>
   intro g' e k xs hO;obtain⟨g0,e0,k0,xs0,h1,h2,h3⟩:=hr id g' e k xs hO;obtain⟨h4,h5⟩:=h g0 e0 k0 xs0 h1;refine⟨Nat.le_trans h4 h2,fun hg=>?_⟩;have e1:g0=g':=by omega
   rw[(h3 e1).2,←(h3 e1).1];exact h5 (by omega)
 | q cs=>obtain⟨b,o,us,h1,h2,h3,h4⟩:=h;exact⟨b,o,us,h1,(hs b h2).1,h3.keep hs,range_keep h4 (hs b h2).2⟩
 | un=>trivial
structure Cx where
 w0:World
 S0:Nat→Prop
 m:List Value
 nt:Nat
structure AS where
 env:List (Nat×AV)
 objs:List (Nat×AO)
def blk:Value→Option Nat
 | .pointer (some a)=>some a.block
 | .slice (some a) _ _=>some a.block
 | .map (some b)=>some b
 | _=>none
def Cx.M(C:Cx)(b:Nat):Prop:=∃ x∈C.m,blk x=some b
def still:AO→Bool
 | .box .. =>true
 | .row g .. =>Nat.beq g 0
 | .dead=>false
 | .own .. =>false
def Dat(C:Cx)(β:Nat→Value)(O:List (Nat×AO))(w:World):Nat→Prop:=fun b=>(C.S0 b∨C.w0.heap.size≤b∨C.M b)∧b<w.heap.size∧∀ id o,get? O id=some o→blk (β id)≠some b
def RStable(x:Value)(R:(Nat→Prop)→World→Prop):Prop:=∀ (S S':Nat→Prop) (w w':World),R S w→(∀b,S b→S' b∧w'.heap[b]?=w.heap[b]?)→(∀b,blk x=some b→w'.heap[b]?=w.heap[b]?)→R S' w'
def RO(S:Nat→Prop)(w:World)(β:Nat→Value)(O:List (Nat×AO))(id:Nat):AO→Prop
 | .box T cs=>∃ b us,β id= .pointer (some ⟨b,0,none⟩)∧w.heap[b]?=some (.cells (us:List Value).toArray T (0,0))∧us.length=cs.length∧(∀u∈us,u.oneCell'=true)∧∀ i (h:i<us.length) (h':i<cs.length),RA S w β O us[i] cs[i]
 | .row _ e k xs=>∃ css:List (List Value),css.length=xs.length∧(∀i (h:i<css.length) (h':i<xs.length),RDs S w css[i] xs[i])∧(∀x∈xs,x.length=k)∧w.ownsRow 0 e k (β id) xs.length css.flatten
 | .dead=>True
 | .own x R=>β id=x∧R S w∧RStable x R
structure Inv(C:Cx)(σ:AS)(β:Nat→Value)(a:Act)(w:World):Prop where
 defs:a.defers=[]
 nt:a.tmps.size=C.nt
 os:w.os=C.w0.os
 tape:w.tape=C.w0.tape
 output:w.output=C.w0.output
 size:C.w0.heap.size≤w.heap.size
 fr:∀ b,b<C.w0.heap.size→¬ C.M b→w.heap[b]?=C.w0.heap[b]?
 env:∀ t v,get? σ.env t=some v→∃ u,a.tmps[t]?=some u∧RA (Dat C β σ.objs w) w β σ.objs u v
 obj:∀ id o,get? σ.objs id=some o→RO (Dat C β σ.objs w) w β σ.objs id o
 dis:∀ i j oi oj b,get? σ.objs i=some oi→get? σ.objs j=some oj→blk (β i)=some b→blk (β j)=some b→i=j
 own:∀ i oi b,get? σ.objs i=some oi→blk (β i)=some b→(C.M b∨C.w0.heap.size≤b)∧b<w.heap.size
 pin:∀ i x o,C.m[i]?=some x→get? σ.objs (C.nt+i)=some o→still o=true→β (C.nt+i)=x
def St(C:Cx)(σ:AS)(a:Act)(w:World):Prop:=∃ β,Inv C σ β a w
section
variable {C:Cx}{σ:AS}{β:Nat→Value}{a:Act}{w w':World}
theorem Dat.ext{O:List (Nat×AO)}(hx:Ext w w'):∀ b,Dat C β O w b→Dat C β O w' b∧w'.heap[b]?=w.heap[b]?:=fun b hb=>
 ⟨⟨hb.1,Nat.lt_of_lt_of_le hb.2.1 hx.size,hb.2.2⟩,hx.block b hb.2.1⟩
theorem RA.same{S S':Nat→Prop}{O:List (Nat×AO)}{u:Value}{x:AV}(h:RA S w β O u x)(hs:∀ b,S b→S' b∧w'.heap[b]?=w.heap[b]?):RA S' w' β O u x:=
 h.keep hs (fun _ T cs h=>⟨⟨T,cs,h⟩,rfl⟩) (fun _ g e k xs h=>⟨g,e,k,xs,h,Nat.le_refl _,fun _=>⟨rfl,rfl⟩⟩)
theorem ownsRow_ext{e:TypeId}{k n:Nat}{v:Value}{xs:List Value}(h:w.ownsRow 0 e k v n xs)(hb:∀ b,blk v=some b→w'.heap[b]?=w.heap[b]?):w'.ownsRow 0 e k v n xs:=by
 refine⟨h.1,?_⟩;rcases h.2 with h0 | ⟨g,cap,cur,hv,hb0,hg,rest⟩
 ·exact .inl h0
 ·exact .inr ⟨g,cap,cur,hv,hb0,by rw[hb g (by rw[hv];rfl)];exact hg,rest⟩
theorem RO.same{S S':Nat→Prop}{O:List (Nat×AO)}{id:Nat}{o:AO}(h:RO S w β O id o)(hs:∀ b,S b→S' b∧w'.heap[b]?=w.heap[b]?)(hb:∀ b,blk (β id)=some b→w'.heap[b]?=w.heap[b]?):RO S' w' β O id o:=by
 cases o with
 | box T cs=>
   obtain⟨b,us,h1,h2,h3,h4,h5⟩:=h;exact⟨b,us,h1,by rw[hb b (by rw[h1];rfl)];exact h2,h3,h4,fun i h h'=>(h5 i h h').same hs⟩
 | row g e k xs=>
   obtain⟨css,h1,h2,h3,h4⟩:=h;exact⟨css,h1,fun i h h'=>(h2 i h h').keep hs,h3,ownsRow_ext h4 hb⟩
 | dead=>trivial
 | own x R=>exact⟨h.1,h.2.2 _ _ _ _ h.2.1 hs fun b hb'=>hb b (by rw[h.1];exact hb'),h.2.2⟩
theorem Inv.ext(h:Inv C σ β a w)(hx:Ext w w'):Inv C σ β a w' where
 defs:=h.defs
 nt:=h.nt
 os:=hx.os.trans h.os
 tape:=hx.tape.trans h.tape
 output:=hx.output.trans h.output
 size:=Nat.le_trans h.size hx.size
 fr:=fun b hb hm=>(hx.block b (Nat.lt_of_lt_of_le hb h.size)).trans (h.fr b hb hm)
 env:=fun t v ht=>by
  obtain⟨u,h1,h2⟩:=h.env t v ht;exact⟨u,h1,h2.same (Dat.ext hx)⟩
 obj:=fun id o ho=>(h.obj id o ho).same (Dat.ext hx) fun b hb=>hx.block b (h.own id o b ho hb).2
 dis:=h.dis
 own:=fun i oi b h1 h2=>⟨(h.own i oi b h1 h2).1,Nat.lt_of_lt_of_le (h.own i oi b h1 h2).2 hx.size⟩
 pin:=h.pin
def AS.put(σ:AS)(d:Option Nat)(v:AV):AS:=match d with
 | some t=>⟨(t,v)::σ.env,σ.objs⟩
 | none=>σ
theorem Inv.put(h:Inv C σ β a w)(d:Option Nat)(hd:∀ t,d=some t→t<C.nt){u:Value}{v:AV}(hv:RA (Dat C β σ.objs w) w β σ.objs u v):Inv C (σ.put d v) β (a.put d u) w:=by
 cases d with
 | none=>exact h
 | some d=>
   refine⟨h.defs,by simp[Act.put,h.nt],h.os,h.tape,h.output,h.size,h.fr,fun t x ht=>?_,h.obj,h.dis,h.own,h.pin⟩;simp only[AS.put,get?_cons]at ht;have hd':d<a.tmps.size:=by rw[h.nt];exact hd d rfl
   by_cases e:d=t
   ·subst e;rw[if_pos rfl]at ht;injection ht with ht;subst ht;exact⟨u,by simp[Act.put,Array.getElem?_setIfInBounds_self_of_lt hd'],hv⟩
   ·rw[if_neg e]at ht;obtain⟨u',h1,h2⟩:=h.env t x ht;exact⟨u',by simp only[Act.put];rw[Array.getElem?_setIfInBounds_ne e];exact h1,h2⟩
theorem Inv.putUn(h:Inv C σ β a w)(d:Option Nat)(hd:∀ t,d=some t→t<C.nt)(u:Value):Inv C (σ.put d .un) β (a.put d u) w:=h.put d hd trivial
theorem Inv.putNo(h:Inv C σ β a w)(d:Option Nat)(hd:∀ t,d=some t→t<C.nt):Inv C (σ.put d (.t [])) β (a.put d undef) w:=h.put d hd ⟨[],rfl,rfl,fun i h=>absurd h (by simp)⟩
def constD:Value→Option D
 | .slice none 0 0=>some .n
 | .agg _=>none
 | .tuple _=>none
 | v=>some (.v v)
theorem constD_sound{S:Nat→Prop}{v:Value}{d:D}(h:constD v=some d):RD S w v d:=by
 unfold constD at h;split at h
 ·injection h with h;subst h;exact .n
 ·cases h
 ·cases h
 ·injection h with h;subst h;refine .v ?_;cases v<;>first | rfl | (rename_i h1 h2 _ _;simp at*)
def constDs:List Value→Option (List D)
 | []=>some []
 | v::r=>match constD v,constDs r with
   | some d,some ds=>some (d::ds)
   | _,_=>none
theorem constDs_sound{S:Nat→Prop}:∀ {vs:List Value} {ds:List D},constDs vs=some ds→RDs S w vs ds
 | [],ds,h=>by simp[constDs]at h;subst h;exact .nil
 | v::r,ds,h=>by
   unfold constDs at h;split at h
   ·rename_i d ds' h1 h2;injection h with h;subst h;exact .cons (constD_sound h1) (constDs_sound h2)
   ·cases h
def constAV:Value→AV
 | .agg cs=>match constDs cs.toList with
   | some ds=> .g ds
   | none=> .un
 | v=>match constD v with
   | some d=> .d d
   | none=> .un
theorem constAV_sound{S:Nat→Prop}{O:List (Nat×AO)}(v:Value):RA S w β O v (constAV v):=by
 unfold constAV;split
 ·split
  ·rename_i cs _ ds h;exact⟨cs.toList,by simp,constDs_sound h⟩
  ·trivial
 ·split
  ·rename_i d h;exact constD_sound h
  ·trivial
def ev(σ:AS):Operand→AV
 | .tmp t=>match get? σ.env t with
   | some v=>v
   | none=> .un
 | .const v=>constAV v
 | .func f=> .d (.v (.func (.func f) #[] #[]))
 | .global g=> .d (.v (.pointer (some ⟨g,0,none⟩)))
theorem Inv.ev(h:Inv C σ β a w)(x:Operand):RA (Dat C β σ.objs w) w β σ.objs (a.eval x) (ev σ x):=by
 cases x with
 | tmp t=>
   simp only[YtbbpecfapohlaaaGreatDoor.ev];split
   ·rename_i v hv;obtain⟨u,h1,h2⟩:=h.env t v hv;have:a.eval (.tmp t)=u:=by simp[Act.eval,Array.getD_eq_getD_getElem?,h1]
    rw[this];exact h2
   ·trivial
 | const v=>exact constAV_sound v
 | func f=>exact RD.v rfl
 | global g=>exact RD.v rfl
def Oper.rd(o:Oper):List Nat:=o.op.operands.toList.filterMap fun | .tmp t=>some t | _=>none
end
def refsL:AV→List Nat
 | .p i _=>[i]
 | .r i _=>[i]
 | .e i _ _ _=>[i]
 | _=>[]
def refsA(d:Nat)(v:AV):Bool:=(refsL v).elem d
def refsOL:AO→List Nat
 | .box _ cs=>cs.flatMap refsL
 | .row .. =>[]
 | .dead=>[]
 | .own .. =>[]
def refsO(d:Nat)(o:AO):Bool:=(refsOL o).elem d
def noRef(σ:AS)(d:Nat):Bool:=(σ.env.all fun x=>!refsA d x.2)&&(σ.objs.all fun x=>!Nat.beq x.1 d&&!refsO d x.2)
structure NoRef(σ:AS)(d:Nat):Prop where
 env:∀ t v,get? σ.env t=some v→refsA d v=false
 obj:∀ id o,get? σ.objs id=some o→id≠d∧refsO d o=false
theorem noRef.out{σ:AS}{d:Nat}(h:noRef σ d=true):NoRef σ d:=by
 unfold noRef at h;rw[Bool.and_eq_true,List.all_eq_true,List.all_eq_true]at h;refine⟨fun t v ht=>by simpa using h.1 _ (get?_mem ht),fun id o ht=>?_⟩;have:=h.2 _ (get?_mem ht);simp only[Bool.and_eq_true,Bool.not_eq_true']at this;refine⟨fun e=>?_,this.2⟩;subst e;simp at this
structure Fx where
 R:List Nat:=[]
 X:List Nat:=[]
 W:List (Nat×AO):=[]
 nw:Option Nat:=none
abbrev Fx.nil:Fx:={}
structure Like(o:Oper)(σ σ':AS)(f:Fx):Prop where
 env:∀ t,t∈Oper.rd o→∀ v,get? σ.env t=some v→v= .un∨get? σ'.env t=some v
 rd:∀ id,id∈f.R→get? σ'.objs id=get? σ.objs id
 box:∀ id,id∈f.X→∀ T cs,get? σ.objs id=some (.box T cs)→∃ T' cs',get? σ'.objs id=some (.box T' cs')
 new:∀ d,f.nw=some d→NoRef σ' d
theorem Like.refl{o:Oper}{σ:AS}{f:Fx}(h:∀ d,f.nw=some d→NoRef σ d):Like o σ σ f:=⟨fun _ _ _ h=> .inr h,fun _ _=>rfl,fun _ _ T cs h=>⟨T,cs,h⟩,h⟩
theorem Like.ra{C:Cx}{β:Nat→Value}{a:Act}{w:World}{o:Oper}{σ σ':AS}{f:Fx}(h:Like o σ σ' f)(hi:Inv C σ' β a w){x:Operand}(hx:x∈o.op.operands.toList):RA (Dat C β σ'.objs w) w β σ'.objs (a.eval x) (ev σ x):=by
 have h1:=hi.ev x;cases x with
 | tmp t=>
   have ht:t∈Oper.rd o:=List.mem_filterMap.2 ⟨.tmp t,hx,rfl⟩;have h2:=h.env t ht;simp only[YtbbpecfapohlaaaGreatDoor.ev]at h1 ⊢;cases e:get? σ.env t with
   | none=>trivial
   | some v=>
     rcases h2 v e with h3 | h3
     ·subst h3;trivial
     ·rw[h3]at h1;exact h1
 | _=>exact h1
def dstOK(nt:Nat)(o:Oper):Bool:=match o.dst with
 | some d=>Nat.blt d nt
 | none=>true
theorem dstOK.out{nt:Nat}{o:Oper}(h:dstOK nt o=true):∀ t,o.dst=some t→t<nt:=by
 intro t ht;unfold dstOK at h;rw[ht]at h;simpa[Nat.blt_eq] using h
def AS.upd(σ:AS)(d:Option Nat)(v:AV)(W:List (Nat×AO)):AS:=⟨(σ.put d v).env,W++σ.objs⟩
def Do(P:Program)(C:Cx)(o:Oper)(σ:AS)(v:AV)(f:Fx):Prop:=
 ∀σ',Like o σ σ' f→dstOK C.nt o=true→∀ a w K Q,St C σ' a w→(∀a' w',St C (σ'.upd o.dst v f.W) a' w'→K a' w')→o.wp P a w K Q
theorem Do.of{P:Program}{C:Cx}{o:Oper}{σ:AS}{v:AV}{R X:List Nat}
  (h:∀ σ',Like o σ σ' ⟨R,X,[],none⟩→∀ β a w,Inv C σ' β a w→∃ u w',(execOp a.eval o).run P w= .ok (.value u) w'∧Ext w w'∧RA (Dat C β σ'.objs w') w' β σ'.objs u v):Do P C o σ v ⟨R,X,[],none⟩:=by
 intro σ' hl hd a w K Q ⟨β,hi⟩ hk;obtain⟨u,w',hr,hx,hv⟩:=h σ' hl β a w hi;unfold Oper.wp;rw[hr];have:=(hi.ext hx).put _ (dstOK.out hd) hv;refine hk _ _ ⟨β,?_⟩;cases e:o.dst with
 | none=>rw[e]at this;exact this
 | some d=>rw[e]at this;exact this
def gslot(ops:Array Oper)(g:Nat):Option Nat:=(ops[g]?).bind (·.dst)
def isB(σ:AS)(t:Option Nat)(b:Bool):Prop:=match t with
 | some t=>get? σ.env t=some (.d (.v (.bool b)))
 | none=>False
def notB(σ:AS)(t:Option Nat)(b:Bool):Prop:=match t with
 | some t=>get? σ.env t=some (.d (.v (.bool (!b))))∨get? σ.env t=some (.t [])
 | none=>False
structure Inf where
 R:List Nat
 X:List Nat
 W:List Nat
 nw:Option Nat
 rf:List Nat
def infOf(v:AV)(f:Fx):Inf:=⟨f.R,f.X,f.W.map (·.1),f.nw,refsL v++f.W.flatMap fun x=>refsOL x.2⟩
def addI(m:Option (List Inf))(i:Inf):Option (List Inf):=match m with
 | some l=>some (l++[i])
 | none=>none
def isBox:AO→Bool
 | .box .. =>true
 | .row .. =>false
 | .dead=>false
 | .own .. =>false
def kindB(σ:AS)(f:Fx):Bool:=f.W.all fun x=>(match f.nw with | some d=>Nat.beq x.1 d | none=>false)||(match get? σ.objs x.1 with | some o=>isBox o==isBox x.2 | none=>false)
def newOK(σ:AS)(f:Fx):Bool:=match f.nw with
 | some d=>noRef σ d
 | none=>true
inductive Chain (P:Program) (C:Cx) (ops:Array Oper) (fin:List Inf→Prop) (Q:AS→Prop):Option (List Inf)→List Oper→AS→Prop
 | nil {m:Option (List Inf)} {σ:AS} (hm:∀ l,m=some l→fin l) (h:Q σ):Chain P C ops fin Q m [] σ
 | step {m:Option (List Inf)} {o:Oper} {rest:List Oper} {σ:AS} (v:AV) (f:Fx) (hg:o.guard=none∨∃ g b,o.guard=some (g,b)∧isB σ (gslot ops g) b) (h:Do P C o σ v f) (hk:kindB σ f=true) (hn:newOK σ f=true) (k:Chain P C ops fin Q (addI m (infOf v f)) rest (σ.upd o.dst v f.W)):Chain P C ops fin Q m (o::rest) σ
 | off {m:Option (List Inf)} {o:Oper} {rest:List Oper} {σ:AS} (g:Nat) (b:Bool) (hg:o.guard=some (g,b)) (hb:notB σ (gslot ops g) b) (k:Chain P C ops fin Q (addI m (infOf (.t []) {})) rest (σ.upd o.dst (.t []) [])):Chain P C ops fin Q m (o::rest) σ
 | weak {rest:List Oper} {σ:AS} (σ':AS) (h:∀ a w,St C σ a w→St C σ' a w) (k:Chain P C ops fin Q none rest σ'):Chain P C ops fin Q none rest σ
 | any {rest:List Oper} {σ:AS} (V:AS→Prop) (h:∀ a w,St C σ a w→∃ σ',V σ'∧St C σ' a w) (k:∀ σ',V σ'→Chain P C ops fin Q none rest σ'):Chain P C ops fin Q none rest σ
 | eff {o:Oper} {rest:List Oper} {σ:AS} (V:AS→Prop) (hg:o.guard=none) (h:dstOK C.nt o=true→∀ a w K Q',St C σ a w→(∀σ' a' w',V σ'→St C σ' a' w'→K a' w')→o.wp P a w K Q') (k:∀ σ',V σ'→Chain P C ops fin Q none rest σ'):Chain P C ops fin Q none (o::rest) σ
theorem isB.yields{C:Cx}{σ:AS}{β:Nat→Value}{a:Act}{w:World}{ops:Array Oper}{g:Nat}{b:Bool}(h:Inv C σ β a w)(hb:isB σ (gslot ops g) b):yielded ops a.tmps g=some b:=by
 unfold isB gslot at hb;unfold yielded;cases e:(ops[g]?).bind (·.dst)with
 | none=>rw[e]at hb;exact hb.elim
 | some t=>
   rw[e]at hb;obtain⟨u,h1,h2⟩:=h.env t _ hb;have:u= .bool b:=by cases h2;rfl
   subst this;simp[h1]
theorem notB.yields{C:Cx}{σ:AS}{β:Nat→Value}{a:Act}{w:World}{ops:Array Oper}{g:Nat}{b:Bool}(h:Inv C σ β a w)(hb:notB σ (gslot ops g) b):yielded ops a.tmps g≠some b:=by
 unfold notB gslot at hb;unfold yielded;cases e:(ops[g]?).bind (·.dst)with
 | none=>rw[e]at hb;exact hb.elim
 | some t=>
   rw[e]at hb;rcases hb with hb | hb
   ·obtain⟨u,h1,h2⟩:=h.env t _ hb;have:u= .bool (!b):=by cases h2;rfl
    subst this;simp[h1]
   ·obtain⟨u,h1,us,h2,h3,_⟩:=h.env t _ hb;subst h2;simp[h1]
theorem Inv.offS{C:Cx}{σ:AS}{β:Nat→Value}{a:Act}{w:World}(h:Inv C σ β a w)(d:Option Nat)(hd:∀ t,d=some t→t<C.nt):Inv C (σ.upd d (.t []) []) β (a.put d undef) w:=by
 have:=h.putNo d hd;cases d<;>exact this
theorem newOK.out{σ:AS}{f:Fx}(h:newOK σ f=true):∀ d,f.nw=some d→NoRef σ d:=by
 intro d hd;unfold newOK at h;rw[hd]at h;exact noRef.out h
def liftQ(C:Cx)(Q:Exit→AS→Prop):Exit→Act→World→Prop:=fun e a w=>∃ σ,Q e σ∧St C σ a w
theorem Chain.seq{P:Program}{C:Cx}{ops:Array Oper}{fin:List Inf→Prop}{Q:Exit→AS→Prop}{rest:List Oper}{σ:AS}{m:Option (List Inf)}(h:Chain P C ops fin (Q .normal) m rest σ)(hd:∀ o∈rest,dstOK C.nt o=true):
  ∀a w,St C σ a w→wpList P ops (liftQ C Q) rest a w:=by
 induction h with
 | nil hm h=>intro a w hs;exact⟨_,h,hs⟩
 | step v f hg h hk hn k ih=>
   intro a w hs;obtain⟨β,hi⟩:=id hs;refine wpList_step fun K hK=>?_;have go:=h _ (.refl (newOK.out hn)) (hd _ (by simp)) a w K (liftQ C Q) hs fun a' w' hs'=>hK _ _ (ih (fun o ho=>hd o (by simp[ho])) a' w' hs');rcases hg with hg | ⟨g,b,hg,hb⟩
   ·rw[if_pos (by simp[Region.wanted,hg])];exact go
   ·rw[if_pos (by simp[Region.wanted,hg,hb.yields hi])];exact go
 | off g b hg hb k ih=>
   intro a w hs;obtain⟨β,hi⟩:=id hs;refine wpList_step fun K hK=>?_;rw[if_neg (by have:=hb.yields hi;simp[Region.wanted,hg,this])];exact hK _ _ (ih (fun o ho=>hd o (by simp[ho])) _ _ ⟨β,hi.offS _ (dstOK.out (hd _ (by simp)))⟩)
 | weak σ' h k ih=>intro a w hs;exact ih hd a w (h a w hs)
 | any V h k ih=>intro a w hs;obtain⟨σ',h1,h2⟩:=h a w hs;exact ih σ' h1 hd a w h2
 | eff V hg h k ih=>
   intro a w hs;refine wpList_step fun K hK=>?_;rw[if_pos (by simp[Region.wanted,hg])];exact h (hd _ (by simp)) a w K (liftQ C Q) hs fun σ' a' w' hv hs'=>hK _ _ (ih σ' hv (fun o ho=>hd o (by simp[ho])) a' w' hs')
def bf:List Oper→List Nat→List Nat
 | [],acc=>acc
 | o::r,acc=>bf r (acc++[o.after.toList.foldl (fun s e=>bif Region.binds .any e then s ||| (2^e.on ||| acc.getD e.on 0)else s) 0])
theorem bf_fold{acc:List Nat}{L:Nat→Prop}(hacc:∀ k,L k→∀ j,(acc.getD k 0).testBit j=true→L j):
  ∀(es:List Edge) (s:Nat),(∀e∈es,Region.binds .any e=true→L e.on)→(∀j,s.testBit j=true→L j)→∀ j,(es.foldl (fun s e=>bif Region.binds .any e then s ||| (2^e.on ||| acc.getD e.on 0)else s) s).testBit j=true→L j
 | [],s,_,hs=>hs
 | e::es,s,he,hs=>by
   refine bf_fold hacc es _ (fun e' h'=>he e' (by simp[h'])) ?_;intro j hj;cases hb:Region.binds .any e with
   | false=>
     simp only[hb,cond_false]at hj;exact hs j hj
   | true=>
     simp only[hb,cond_true,Nat.testBit_or,Nat.testBit_two_pow,Bool.or_eq_true,decide_eq_true_eq]at hj;have hon:=he e (by simp) hb;rcases hj with h | h | h
     ·exact hs j h
     ·subst h;exact hon
     ·exact hacc _ hon j h
theorem bf_spec{L:Nat→Prop}:∀ (ops:List Oper) (acc:List Nat) (P0:Nat→Prop),
  (∀k,k<acc.length→P0 k→∀ j,(acc.getD k 0).testBit j=true→L j)→(∀k,L k→P0 k)→(∀k o,ops[k]?=some o→P0 (acc.length+k)→∀ e∈o.after,Region.binds .any e=true→L e.on)→
  ∀k,P0 k→∀ j,((bf ops acc).getD k 0).testBit j=true→L j
 | [],acc,P0,h1,_,_=>by
   intro k hk j hj;by_cases h:k<acc.length
   ·exact h1 k h hk j hj
   ·simp only[bf,List.getD_eq_getElem?_getD,List.getElem?_eq_none (by omega:acc.length≤k),Option.getD_none,Nat.zero_testBit]at hj;cases hj
 | o::r,acc,P0,h1,h2,h3=>by
   refine bf_spec r _ P0 ?_ h2 ?_
   ·intro k hk hp j hj;simp only[List.length_append,List.length_singleton]at hk;by_cases h:k<acc.length
    ·rw[List.getD_eq_getElem?_getD,List.getElem?_append_left h,←List.getD_eq_getElem?_getD]at hj;exact h1 k h hp j hj
    ·have:k=acc.length:=by omega
     subst this;simp only[List.getD_eq_getElem?_getD,List.getElem?_append_right (Nat.le_refl _),Nat.sub_self,List.getElem?_cons_zero,Option.getD_some]at hj;refine bf_fold (L:=L) (acc:=acc) ?_ o.after.toList 0 (fun e he hb=>h3 0 o rfl (by simpa using hp) e (by simpa using he) hb) (by simp) j (by simpa[List.getD_eq_getElem?_getD] using hj);intro k hk j hj;by_cases h:k<acc.length
     ·exact h1 k h (h2 k hk) j hj
     ·simp only[List.getD_eq_getElem?_getD,List.getElem?_eq_none (by omega:acc.length≤k),Option.getD_none,Nat.zero_testBit]at hj;cases hj
   ·intro k o' ho hp;refine h3 (k+1) o' (by simpa using ho) ?_;simpa[Nat.add_assoc,Nat.add_comm 1 k] using hp
def looks(ops:Array Oper)(o:Oper):List Nat:=Oper.rd o++(match o.guard with
 | some (g,_)=>(gslot ops g).toList
 | none=>[])
def hasDst(o:Oper)(t:Nat):Bool:=match o.dst with
 | some d=>Nat.beq d t
 | none=>false
def pairOK(ms:List Nat)(o:Oper)(lk:List Nat)(i:Nat)(p:Oper)(j:Nat):Bool:=match p.dst with
 | none=>true
 | some t=>Nat.beq i j||(!hasDst o t&&(!lk.elem t||(bif Nat.blt j i then(ms.getD i 0).testBit j else(ms.getD j 0).testBit i)))
def regOK(ops:Array Oper):Bool:=
 let ms:=bf ops.toList []
 let all:=ops.toList.zipIdx
 all.all fun(o,i)=>(o.after.toList.all fun e=>!Region.binds .any e||Nat.blt e.on i)&&(let lk:=looks ops o;all.all fun(p,j)=>pairOK ms o lk i p j)
structure RegOK(ops:Array Oper):Prop where
 edge:∀ (i:Nat) (o:Oper),ops[i]?=some o→∀ e∈o.after,Region.binds .any e=true→e.on<i
 two:∀ (i j:Nat) (o p:Oper) (t:Nat),ops[i]?=some o→ops[j]?=some p→p.dst=some t→i≠j→o.dst≠some t
 look:∀ (i j:Nat) (o p:Oper) (t:Nat),ops[i]?=some o→ops[j]?=some p→p.dst=some t→i≠j→t∈looks ops o→if j<i then((bf ops.toList []).getD i 0).testBit j=true else((bf ops.toList []).getD j 0).testBit i=true
theorem mem_zip{ops:Array Oper}{o:Oper}{i:Nat}(h:ops[i]?=some o):(o,i)∈ops.toList.zipIdx:=by
 rw[List.mem_zipIdx_iff_getElem?];simpa using h
theorem regOK.out{ops:Array Oper}(h:regOK ops=true):RegOK ops:=by
 unfold regOK at h;simp only[List.all_eq_true,Bool.and_eq_true]at h;have key:∀ (i j:Nat) (o p:Oper) (t:Nat),ops[i]?=some o→ops[j]?=some p→p.dst=some t→i≠j→hasDst o t=false∧(t∈looks ops o→(bif Nat.blt j i then((bf ops.toList []).getD i 0).testBit j else((bf ops.toList []).getD j 0).testBit i)=true):=by
  intro i j o p t ho hp ht hne;have:=(h _ (mem_zip ho)).2 _ (mem_zip hp);unfold pairOK at this;rw[ht]at this;have hb:Nat.beq i j=false:=by
   cases e:Nat.beq i j with
   | false=>rfl
   | true=>exact absurd (Nat.eq_of_beq_eq_true e) hne
  simp only[hb,Bool.false_or,Bool.and_eq_true,Bool.or_eq_true,Bool.not_eq_true']at this;refine⟨this.1,fun hm=>?_⟩;rcases this.2 with h | h
  ·exact absurd (List.elem_eq_true_of_mem hm) (by rw[h];simp)
  ·exact h
 refine⟨?_,?_,?_⟩
 ·intro i o ho e he hb;have:=(h _ (mem_zip ho)).1 e (by simpa using he);simp only[hb,Bool.not_true,Bool.false_or,Nat.blt_eq]at this;exact this
 ·intro i j o p t ho hp ht hne e;have:=(key i j o p t ho hp ht hne).1;unfold hasDst at this;rw[e]at this;simp at this
 ·intro i j o p t ho hp ht hne hm;have:=(key i j o p t ho hp ht hne).2 hm;by_cases hlt:j<i
  ·rw[if_pos hlt];have e:Nat.blt j i=true:=by rw[Nat.blt_eq];exact hlt
   rwa[e]at this
  ·rw[if_neg hlt];have e:Nat.blt j i=false:=by
    cases h:Nat.blt j i with
    | false=>rfl
    | true=>rw[Nat.blt_eq]at h;exact absurd h hlt
   rwa[e]at this
def meets(l k:List Nat):Bool:=l.any fun x=>k.elem x
theorem meets_of{l k:List Nat}{x:Nat}(h1:x∈l)(h2:x∈k):meets l k=true:=List.any_eq_true.2 ⟨x,h1,List.elem_eq_true_of_mem h2⟩
def okI(ms:List Nat)(acc:List Inf):Bool:=
 acc.zipIdx.all fun(b,j)=>acc.zipIdx.all fun(a,i)=>
  (!Nat.blt i j||(ms.getD j 0).testBit i||!(meets a.W b.W||meets a.W b.R||meets a.R b.W||meets a.nw.toList b.X||meets a.nw.toList b.W))&&
  (Nat.beq i j||!meets b.nw.toList a.rf||(ms.getD i 0).testBit j)
structure OkI(ms:List Nat)(I:Nat→Inf)(n:Nat):Prop where
 c:∀ i j,i<j→j<n→(meets (I i).W (I j).W||meets (I i).W (I j).R||meets (I i).R (I j).W||meets (I i).nw.toList (I j).X||meets (I i).nw.toList (I j).W)=true→(ms.getD j 0).testBit i=true
 n:∀ i j,i≠j→i<n→j<n→meets (I j).nw.toList (I i).rf=true→(ms.getD i 0).testBit j=true
theorem okI.out{ms:List Nat}{acc:List Inf}(h:okI ms acc=true)(I:Nat→Inf)(hI:∀ i,i<acc.length→acc[i]?=some (I i)):OkI ms I acc.length:=by
 unfold okI at h;simp only[List.all_eq_true]at h;have mem:∀ i,i<acc.length→(I i,i)∈acc.zipIdx:=fun i hi=>by rw[List.mem_zipIdx_iff_getElem?];exact hI i hi
 refine⟨fun i j hij hj hc=>?_,fun i j hne hi hj hc=>?_⟩
 ·have:=h _ (mem j hj) _ (mem i (by omega));have hb:Nat.blt i j=true:=by rw[Nat.blt_eq];exact hij
  simp only[hb,Bool.not_true,Bool.false_or,hc,Bool.or_false,Bool.and_eq_true]at this;exact this.1
 ·have:=h _ (mem j hj) _ (mem i hi);have hb:Nat.beq i j=false:=by
   cases e:Nat.beq i j with
   | false=>rfl
   | true=>exact absurd (Nat.eq_of_beq_eq_true e) hne
  simp only[hb,hc,Bool.not_true,Bool.false_or,Bool.and_eq_true]at this;exact this.2
section
variable {P:Program}{C:Cx}{ops:Array Oper}{fin:List Inf→Prop}{Q:AS→Prop}{σ:AS}
theorem get?_app{α:Type}(W O:List (Nat×α))(id:Nat):get? (W++O) id=match get? W id with
  | some o=>some o
  | none=>get? O id:=by
 induction W with
 | nil=>simp[get?]
 | cons x r ih=>
   obtain⟨k,v⟩:=x;rw[List.cons_append,get?_cons,get?_cons];by_cases e:k=id
   ·rw[if_pos e,if_pos e]
   ·rw[if_neg e,if_neg e,ih]
theorem St.like{σ σ':AS}{a:Act}{w:World}(h:St C σ' a w)(ho:∀ id,get? σ'.objs id=get? σ.objs id)(he:∀ t v,get? σ.env t=some v→get? σ'.env t=some v):St C σ a w:=by
 obtain⟨β,hi⟩:=h;have hD:∀ b,Dat C β σ'.objs w b→Dat C β σ.objs w b∧w.heap[b]?=w.heap[b]?:=fun b hb=>⟨⟨hb.1,hb.2.1,fun id o h=>hb.2.2 id o (by rw[ho];exact h)⟩,rfl⟩
 have hA:∀ {u:Value} {x:AV},RA (Dat C β σ'.objs w) w β σ'.objs u x→RA (Dat C β σ.objs w) w β σ.objs u x:=fun h=>
  h.keep hD (fun id T cs h=>⟨⟨T,cs,by rw[ho];exact h⟩,rfl⟩) (fun id g e k xs h=>⟨g,e,k,xs,by rw[ho];exact h,Nat.le_refl _,fun _=>⟨rfl,rfl⟩⟩)
 refine⟨β,hi.defs,hi.nt,hi.os,hi.tape,hi.output,hi.size,hi.fr,fun t v ht=>?_,fun id o hid=>?_,fun i j oi oj b h1 h2=>hi.dis i j oi oj b (by rw[ho];exact h1) (by rw[ho];exact h2),fun i oi b h1=>hi.own i oi b (by rw[ho];exact h1),fun i x o h1 h2=>hi.pin i x o h1 (by rw[ho];exact h2)⟩
 ·obtain⟨u,h1,h2⟩:=hi.env t v (he t v ht);exact⟨u,h1,hA h2⟩
 ·have:=hi.obj id o (by rw[ho];exact hid);cases o with
  | box T cs=>
    obtain⟨b,us,h1,h2,h3,h4,h5⟩:=this;exact⟨b,us,h1,h2,h3,h4,fun i h h'=>hA (h5 i h h')⟩
  | row g e k xs=>
    obtain⟨css,h1,h2,h3,h4⟩:=this;exact⟨css,h1,fun i h h'=>(h2 i h h').mono fun b hb=>(hD b hb).1,h3,h4⟩
  | dead=>trivial
  | own x R=>exact⟨this.1,this.2.2 _ _ _ _ this.2.1 hD fun b _=>rfl,this.2.2⟩
def StepOK(P:Program)(C:Cx)(ops:Array Oper)(o:Oper)(τ:AS)(v:AV)(f:Fx):Prop:=
 ((o.guard=none∨∃ g b,o.guard=some (g,b)∧isB τ (gslot ops g) b)∧Do P C o τ v f∧kindB τ f=true∧newOK τ f=true)∨(∃g b,o.guard=some (g,b)∧notB τ (gslot ops g) b∧v= .t []∧f={})
theorem Chain.steps:∀ (d k:Nat) (l:List Oper) (σ:AS) (acc:List Inf),ops.size=k+d→acc.length=k→Chain P C ops fin Q (some acc) l σ→l=ops.toList.drop k→∃ (vs:Nat→AV) (fs:Nat→Fx) (τ:Nat→AS) (tot:List Inf),τ k=σ∧
  (∀i,k≤i→i<ops.size→∃ o,ops[i]?=some o∧StepOK P C ops o (τ i) (vs i) (fs i)∧τ (i+1)=(τ i).upd o.dst (vs i) (fs i).W)∧Q (τ ops.size)∧fin tot∧tot.length=ops.size∧(∀i,i<k→tot[i]?=acc[i]?)∧(∀i,k≤i→i<ops.size→tot[i]?=some (infOf (vs i) (fs i))):=by
 intro d
 induction d with
 | zero=>
   intro k l σ acc hk hacc h hl;have hnil:l=[]:=by rw[hl];simp;omega
   subst hnil;generalize hm:some acc=m at h;cases h with
   | nil hfin h=>
     have e:ops.size=k:=by omega
     exact⟨fun _=> .un,fun _=>{},fun _=>σ,acc,rfl,fun i h1 h2=>by omega,h,hfin acc hm.symm,by omega,fun i _=>rfl,fun i h1 h2=>by omega⟩
   | weak=>cases hm
   | any=>cases hm
 | succ d ih=>
   intro k l σ acc hk hacc h hl;have hlen:l.length=ops.size-k:=by rw[hl,List.length_drop,Array.length_toList]
   have nxt:∀ (o:Oper) (rest:List Oper),l=o::rest→rest=ops.toList.drop (k+1)∧ops[k]?=some o:=by
    intro o rest he;refine⟨?_,?_⟩
    ·rw[←List.drop_drop,←hl,he];rfl
    ·have:(ops.toList.drop k)[0]?=some o:=by rw[←hl,he];rfl
     rw[List.getElem?_drop]at this;simpa using this
   have more:∀ (o:Oper) (rest:List Oper) (v:AV) (f:Fx),l=o::rest→StepOK P C ops o σ v f→Chain P C ops fin Q (some (acc++[infOf v f])) rest (σ.upd o.dst v f.W)→
     ∃(vs:Nat→AV) (fs:Nat→Fx) (τ:Nat→AS) (tot:List Inf),τ k=σ∧
   (∀i,k≤i→i<ops.size→∃ o,ops[i]?=some o∧StepOK P C ops o (τ i) (vs i) (fs i)∧τ (i+1)=(τ i).upd o.dst (vs i) (fs i).W)∧Q (τ ops.size)∧fin tot∧tot.length=ops.size∧(∀i,i<k→tot[i]?=acc[i]?)∧(∀i,k≤i→i<ops.size→tot[i]?=some (infOf (vs i) (fs i))):=by
     intro o rest v f he hok hch;obtain⟨h1,h2⟩:=nxt o rest he;obtain⟨vs,fs,τ,tot,q1,q3,q4,q5,q6,q7,q8⟩:=ih (k+1) rest _ _ (by omega) (by simp[hacc]) hch h1;refine⟨fun i=>if i=k then v else vs i,fun i=>if i=k then f else fs i,fun i=>if i=k then σ else τ i,tot,by simp,fun i hi him=>?_,?_,q5,q6,fun i hi=>?_,fun i hi him=>?_⟩
     ·by_cases e:i=k
      ·subst e;exact⟨o,h2,by simpa using hok,by simpa using q1⟩
      ·obtain⟨o',r1,r2,r3⟩:=q3 i (by omega) him;refine⟨o',r1,by simpa[e] using r2,?_⟩;have e2:i+1≠k:=by omega
       simpa[e,e2] using r3
     ·have e:ops.size≠k:=by omega
      simpa[e] using q4
     ·rw[q7 i (by omega),List.getElem?_append_left (by omega)]
     ·by_cases e:i=k
      ·subst e;rw[q7 i (by omega),List.getElem?_append_right (by omega)];simp[hacc]
      ·simpa[e] using q8 i (by omega) him
   generalize hm:some acc=m at h;cases h with
   | nil=>simp at hlen;omega
   | step v f hg h hkd hn hch=>subst hm;exact more _ _ v f rfl (.inl ⟨hg,h,hkd,hn⟩) hch
   | off g b hg hb hch=>subst hm;exact more _ _ (.t []) {} rfl (.inr ⟨g,b,hg,hb,rfl,rfl⟩) hch
   | weak=>cases hm
   | any=>cases hm
   | eff=>cases hm
structure Sees(σ:AS)(ops:Array Oper)(vs:Nat→AV)(fs:Nat→Fx)(L:Nat→Prop)(σ':AS):Prop where
 hit:∀ i o t,ops[i]?=some o→o.dst=some t→L i→get? σ'.env t=some (vs i)
 miss:∀ t,(∀i o,ops[i]?=some o→L i→o.dst≠some t)→get? σ'.env t=get? σ.env t
 ohit:∀ i id ob,i<ops.size→L i→get? (fs i).W id=some ob→(∀j,i<j→j<ops.size→L j→get? (fs j).W id=none)→get? σ'.objs id=some ob
 omiss:∀ id,(∀i,i<ops.size→L i→get? (fs i).W id=none)→get? σ'.objs id=get? σ.objs id
theorem Sees.start(σ:AS)(ops:Array Oper)(vs:Nat→AV)(fs:Nat→Fx)(L:Nat→Prop)(hL:∀ i,¬L i):Sees σ ops vs fs L σ:=⟨fun i _ _ _ _ h=>absurd h (hL i),fun _ _=>rfl,fun i _ _ _ h=>absurd h (hL i),fun _ _=>rfl⟩
theorem upd_env(σ:AS)(d:Option Nat)(v:AV)(W:List (Nat×AO))(t:Nat):get? (σ.upd d v W).env t=if d=some t then some v else get? σ.env t:=by
 cases d with
 | none=>simp[AS.upd,AS.put]
 | some d=>
   simp only[AS.upd,AS.put,get?_cons,Option.some.injEq]
theorem Sees.step{vs:Nat→AV}{fs:Nat→Fx}{L L':Nat→Prop}{σ':AS}(hok:RegOK ops)(h:Sees σ ops vs fs L σ'){i:Nat}{o:Oper}(ho:ops[i]?=some o)(hL:∀ j,L' j↔(L j∨j=i))
  (hw:∀ id ob,get? (fs i).W id=some ob→∀ j,i<j→j<ops.size→L j→get? (fs j).W id=none):Sees σ ops vs fs L' (σ'.upd o.dst (vs i) (fs i).W):=by
 have hi:i<ops.size:=(Array.getElem?_eq_some_iff.1 ho).1;refine⟨fun j p t hp ht hl=>?_,fun t hm=>?_,fun k id ob hk hl hW hlast=>?_,fun id hm=>?_⟩
 ·rw[upd_env];by_cases e:j=i
  ·subst e;rw[ho]at hp;injection hp with hp;subst hp;rw[if_pos ht]
  ·have h1:L j:=((hL j).1 hl).resolve_right e;rw[if_neg (hok.two i j o p t ho hp ht (Ne.symm e))];exact h.hit j p t hp ht h1
 ·rw[upd_env,if_neg (hm i o ho ((hL i).2 (.inr rfl)))];exact h.miss t (fun j p hp hl=>hm j p hp ((hL j).2 (.inl hl)))
 ·show get? ((fs i).W++σ'.objs) id=_;rw[get?_app];cases e:get? (fs i).W id with
  | some ob'=>
    by_cases e2:k=i
    ·subst e2;rw[e]at hW;exact hW
    ·have hLk:L k:=((hL k).1 hl).resolve_right e2;rcases Nat.lt_or_ge k i with h1 | h1
     ·have:=hlast i h1 hi ((hL i).2 (.inr rfl));rw[e]at this;cases this
     ·have:=hw id ob' e k (by omega) hk hLk;rw[hW]at this;cases this
  | none=>
    have e2:k≠i:=fun e2=>by subst e2;rw[e]at hW;cases hW
    exact h.ohit k id ob hk (((hL k).1 hl).resolve_right e2) hW (fun j h1 h2 h3=>hlast j h1 h2 ((hL j).2 (.inl h3)))
 ·show get? ((fs i).W++σ'.objs) id=_;rw[get?_app,hm i hi ((hL i).2 (.inr rfl))];exact h.omiss id (fun j hj hl=>hm j hj ((hL j).2 (.inl hl)))
theorem last_of{p:Nat→Prop}:∀ (n:Nat),(∀i,i<n→¬ p i)∨∃ i,i<n∧p i∧∀ j,i<j→j<n→¬ p j
 | 0=> .inl fun i h=>absurd h (by omega)
 | n+1=>by
   by_cases hp:p n
   ·exact .inr ⟨n,by omega,hp,fun j h1 h2=>by omega⟩
   ·rcases last_of (p:=p) n with h | ⟨i,h1,h2,h3⟩
    ·exact .inl fun i hi=>by
      by_cases e:i=n
      ·subst e;exact hp
      ·exact h i (by omega)
    ·exact .inr ⟨i,by omega,h2,fun j h4 h5=>by
      by_cases e:j=n
      ·subst e;exact hp
      ·exact h3 j h4 (by omega)⟩
theorem first_of{p:Nat→Prop}:∀ (n:Nat),(∀i,i<n→¬ p i)∨∃ i,i<n∧p i∧∀ j,j<i→¬ p j
 | 0=> .inl fun i h=>absurd h (by omega)
 | n+1=>by
   rcases first_of (p:=p) n with h | ⟨i,h1,h2,h3⟩
   ·by_cases hp:p n
    ·exact .inr ⟨n,by omega,hp,h⟩
    ·exact .inl fun i hi=>by
      by_cases e:i=n
      ·subst e;exact hp
      ·exact h i (by omega)
   ·exact .inr ⟨i,by omega,h2,h3⟩
theorem Sees.same{vs:Nat→AV}{fs:Nat→Fx}{L L':Nat→Prop}{σ1 σ2:AS}(h1:Sees σ ops vs fs L σ1)(h2:Sees σ ops vs fs L' σ2)(id:Nat)(h:∀ i ob,i<ops.size→get? (fs i).W id=some ob→(L i↔L' i)):get? σ1.objs id=get? σ2.objs id:=by
 rcases last_of (p:=fun i=>L i∧∃ ob,get? (fs i).W id=some ob) ops.size with hn | ⟨i,hi,⟨hl,ob,hw⟩,hlast⟩
 ·have none_of:∀ i,(¬∃ ob,get? (fs i).W id=some ob)→get? (fs i).W id=none:=fun i hi=>by
   cases e:get? (fs i).W id with
   | none=>rfl
   | some ob=>exact absurd ⟨ob,e⟩ hi
  rw[h1.omiss id (fun i hi hl=>none_of i fun hx=>hn i hi ⟨hl,hx⟩),h2.omiss id (fun i hi hl=>none_of i fun hx=>by
   obtain⟨ob,hw⟩:=hx;exact hn i hi ⟨(h i ob hi hw).2 hl,ob,hw⟩)]
 ·have none_of:∀ j,i<j→j<ops.size→L j→get? (fs j).W id=none:=fun j h3 h4 h5=>by
   cases e:get? (fs j).W id with
   | none=>rfl
   | some ob'=>exact absurd ⟨h5,ob',e⟩ (hlast j h3 h4)
  rw[h1.ohit i id ob hi hl hw none_of,h2.ohit i id ob hi ((h i ob hi hw).1 hl) hw (fun j h3 h4 h5=>by
   cases e:get? (fs j).W id with
   | none=>rfl
   | some ob'=>exact absurd ⟨(h j ob' h4 e).2 h5,ob',e⟩ (hlast j h3 h4))]
def Closed(ops:Array Oper)(L:Nat→Prop):Prop:=∀ k o,ops[k]?=some o→L k→∀ e∈o.after,Region.binds .any e=true→L e.on
theorem Closed.bits{L:Nat→Prop}(h:Closed ops L){i:Nat}{o:Oper}(ho:ops[i]?=some o)(hi:∀ e∈o.after,Region.binds .any e=true→L e.on):∀ j,((bf ops.toList []).getD i 0).testBit j=true→L j:=by
 refine bf_spec ops.toList [] (fun k=>L k∨k=i) (fun k hk=>absurd hk (by simp)) (fun k hk=> .inl hk) (fun k p hp hk=>?_) i (.inr rfl);have hp':ops[k]?=some p:=by simpa using hp
 rcases hk with hk | hk
 ·exact h k p hp' (by simpa using hk)
 ·have:k=i:=by simpa using hk
  subst this;rw[ho]at hp';injection hp' with hp';subst hp';exact hi
abbrev lst(listed:Array Bool):Nat→Prop:=fun i=>listed.getD i false=true
theorem lst_set{listed:Array Bool}{i:Nat}(hi:i<listed.size):∀ j,lst (listed.setIfInBounds i true) j↔(lst listed j∨j=i):=by
 intro j;simp only[lst,Array.getD_eq_getD_getElem?];by_cases e:i=j
 ·subst e;simp[Array.getElem?_setIfInBounds_self_of_lt hi]
 ·rw[Array.getElem?_setIfInBounds_ne e];constructor
  ·exact fun h=> .inl h
  ·rintro (h | h)
   ·exact h
   ·exact absurd h.symm e
theorem unl_set{listed:Array Bool}{i fuel:Nat}(hi:listed.getD i true=false)(hf:listed.toList.count false≤fuel+1):(listed.setIfInBounds i true).toList.count false≤fuel:=by
 have hlt:i<listed.toList.length:=by
  rcases Nat.lt_or_ge i listed.size with h | h
  ·simpa using h
  ·simp[Array.getD_eq_getD_getElem?,Array.getElem?_eq_none h]at hi
 rw[Array.toList_setIfInBounds,List.count_set hlt];have:listed.toList[i]=false:=by
  have h':i<listed.size:=by simpa using hlt
  simpa[Array.getD_eq_getD_getElem?,Array.getElem?_eq_getElem h'] using hi
 simp only[this,BEq.rfl,if_true];have hb:(true==false)=false:=rfl;rw[hb,if_neg (by simp)];omega
theorem ready_none{listed:Array Bool}(h:listed.toList.count false=0):Region.ready .any ops listed=[]:=by
 refine List.eq_nil_iff_forall_not_mem.2 fun j hj=>?_;have h1:=(mem_ready.1 hj).1;rw[List.count_eq_zero]at h;have hlt:j<listed.size:=by
  rcases Nat.lt_or_ge j listed.size with h | h
  ·exact h
  ·simp[Array.getD_eq_getD_getElem?,Array.getElem?_eq_none h]at h1
 refine h ?_;have:listed[j]=false:=by simpa[Array.getD_eq_getD_getElem?,Array.getElem?_eq_getElem hlt] using h1
 rw[←this];simp
theorem ready_some{listed:Array Bool}(hsz:listed.size=ops.size)(hedge:∀ i o,ops[i]?=some o→∀ e∈o.after,Region.binds .any e=true→e.on<i)(h:Region.ready .any ops listed=[]):∀ i,i<ops.size→lst listed i:=by
 intro i
 induction i using Nat.strongRecOn with
 | _ i ih=>
   intro hi;cases hl:listed.getD i true with
   | true=>
     have hlt:i<listed.size:=by omega
     simpa[lst,Array.getD_eq_getD_getElem?,Array.getElem?_eq_getElem hlt] using hl
   | false=>
     have:i∈Region.ready .any ops listed:=mem_ready.2 ⟨hl,ops[i],Array.getElem?_eq_getElem hi,fun e he hb=>by
      have:=hedge i _ (Array.getElem?_eq_getElem hi) e he hb;exact ih e.on this (by omega)⟩
     rw[h]at this;cases this
theorem noRef.less{σ:AS}{d:Option Nat}{v:AV}{W:List (Nat×AO)}{x:Nat}(h:noRef (σ.upd d v W) x=true):noRef σ x=true:=by
 unfold noRef at h ⊢;rw[Bool.and_eq_true,List.all_eq_true,List.all_eq_true]at h ⊢;refine⟨fun y hy=>h.1 y ?_,fun y hy=>h.2 y (List.mem_append_right _ hy)⟩;cases d with
 | none=>exact hy
 | some d=>exact List.mem_cons_of_mem _ hy
theorem w_mem{W:List (Nat×AO)}{id:Nat}{ob:AO}(h:get? W id=some ob):id∈W.map (·.1):=List.mem_map.2 ⟨_,get?_mem h,rfl⟩
theorem loc_any{Q:Exit→AS→Prop}{vs:Nat→AV}{fs:Nat→Fx}{τ:Nat→AS}(hok:RegOK ops)(hI:OkI (bf ops.toList []) (fun i=>infOf (vs i) (fs i)) ops.size)(hnt:∀ (i:Nat) (o:Oper),ops[i]?=some o→dstOK C.nt o=true)
  (hst:∀ i,i<ops.size→∃ o,ops[i]?=some o∧StepOK P C ops o (τ i) (vs i) (fs i)∧τ (i+1)=(τ i).upd o.dst (vs i) (fs i).W)
  (hQ:Q .normal (τ ops.size)):
  ∀(fuel:Nat) (listed:Array Bool) (σ':AS) (a:Act) (w:World),listed.size=ops.size→Closed ops (lst listed)→listed.toList.count false≤fuel→Sees (τ 0) ops vs fs (lst listed) σ'→St C σ' a w→
   wpAny P .any ops (liftQ C Q) fuel listed a w:=by
 have htext:∀ i,i≤ops.size→Sees (τ 0) ops vs fs (fun j=>j<i) (τ i):=by
  intro i
  induction i with
  | zero=>exact fun _=>Sees.start _ _ _ _ _ (by simp)
  | succ i ih=>
    intro hi;obtain⟨o,ho,_,he⟩:=hst i (by omega);rw[he];exact(ih (by omega)).step hok ho (fun j=>by omega) (fun _ _ _ j h1 _ h2=>by omega)
 have hback:∀ i x,i≤ops.size→noRef (τ i) x=true→noRef (τ 0) x=true:=by
  intro i x
  induction i with
  | zero=>exact fun _ h=>h
  | succ i ih=>
    intro hi h;obtain⟨o,ho,_,he⟩:=hst i (by omega);rw[he]at h;exact ih (by omega) (noRef.less h)
 have hkind2:∀ j,j<ops.size→∀ id ob,get? (fs j).W id=some ob→∀ ob2,get? (τ j).objs id=some ob2→isBox ob=isBox ob2:=by
  intro j hj id ob hw ob2 h2;obtain⟨p,hp,hstp,he⟩:=hst j hj;rcases hstp with ⟨_,_,hkd,hn⟩ | ⟨_,_,_,_,_,hf⟩
  ·unfold kindB at hkd;have h5:=List.all_eq_true.1 hkd _ (get?_mem hw);simp only[Bool.or_eq_true]at h5;rcases h5 with h5 | h5
   ·cases en:(fs j).nw with
    | none=>rw[en]at h5;cases h5
    | some d=>
      rw[en]at h5;have:=Nat.eq_of_beq_eq_true h5;subst this;exact absurd rfl ((newOK.out hn _ en).obj _ _ h2).1
   ·rw[h2]at h5;have h6:isBox ob2=isBox ob:=by simpa using h5
    exact h6.symm
  ·rw[hf]at hw;simp[get?]at hw
 have hpres:∀ k k',k≤k'→k'≤ops.size→∀ id ob,get? (τ k).objs id=some ob→∃ ob2,get? (τ k').objs id=some ob2∧isBox ob2=isBox ob:=by
  intro k k' hkk
  induction k' with
  | zero=>
    intro _ id ob h;have:k=0:=by omega
    subst this;exact⟨ob,h,rfl⟩
  | succ k' ihk=>
    intro hk' id ob h;by_cases e:k=k'+1
    ·subst e;exact⟨ob,h,rfl⟩
    ·obtain⟨ob2,h2,h3⟩:=ihk (by omega) (by omega) id ob h;obtain⟨p,hp,hstp,he⟩:=hst k' (by omega);rw[he];simp only[AS.upd,get?_app];cases ew:get? (fs k').W id with
     | none=>exact⟨ob2,h2,h3⟩
     | some ob'=>exact⟨ob',rfl,(hkind2 k' (by omega) id ob' ew ob2 h2).trans h3⟩
 have hfinal:∀ (listed:Array Bool) (σ':AS) (a:Act) (w:World),(∀i,i<ops.size→lst listed i)→Sees (τ 0) ops vs fs (lst listed) σ'→St C σ' a w→liftQ C Q .normal a w:=by
  intro listed σ' a w hall hsee hs;refine⟨_,hQ,hs.like (fun id=>hsee.same (htext _ (Nat.le_refl _)) id fun i ob hi _=>⟨fun _=>hi,fun _=>hall i hi⟩) fun t v hv=>?_⟩;by_cases hex:∃ (i:Nat) (o:Oper),ops[i]?=some o∧o.dst=some t
  ·obtain⟨i,o,ho,hd⟩:=hex;have hi:=(Array.getElem?_eq_some_iff.1 ho).1;rw[(htext _ (Nat.le_refl _)).hit i o t ho hd hi]at hv;rw[hsee.hit i o t ho hd (hall i hi),hv]
  ·rw[(htext _ (Nat.le_refl _)).miss t (fun i o ho _ hd=>hex ⟨i,o,ho,hd⟩)]at hv;rw[hsee.miss t (fun i o ho _ hd=>hex ⟨i,o,ho,hd⟩),hv]
 intro fuel
 induction fuel with
 | zero=>
   intro listed σ' a w hsz hcl hf hsee hs;have hr:=ready_none (ops:=ops) (Nat.le_zero.1 hf);exact⟨hr,hfinal listed σ' a w (fun i hi=>ready_some hsz hok.edge hr i hi) hsee hs⟩
 | succ fuel ih=>
   intro listed σ' a w hsz hcl hf hsee hs;refine⟨fun hr=>hfinal listed σ' a w (fun i hi=>ready_some hsz hok.edge hr i hi) hsee hs,fun i hi=>?_⟩;obtain⟨hun,o,ho,hedges⟩:=mem_ready.1 hi;have hil:i<ops.size:=(Array.getElem?_eq_some_iff.1 ho).1;have hil':i<listed.size:=by omega
   have hnl:¬ lst listed i:=by
    simp only[lst];rw[Array.getD_eq_getD_getElem?,Array.getElem?_eq_getElem hil']at hun ⊢;simp at hun ⊢;exact hun
   have hbits:=hcl.bits ho hedges;have hahead:∀ j p,ops[j]?=some p→lst listed j→((bf ops.toList []).getD j 0).testBit i=true→False:=fun j p hp hj hb=>hnl (hcl.bits hp (hcl j p hp hj) i hb);have hget:∀ j,j<ops.size→∃ p,ops[j]?=some p:=fun j hj=>⟨_,Array.getElem?_eq_getElem hj⟩
   obtain⟨o',ho',hstep,_⟩:=hst i hil;rw[ho]at ho';injection ho' with ho';subst ho';have hte:=htext i (by omega);have hlook:∀ t,t∈looks ops o→get? σ'.env t=get? (τ i).env t:=by
    intro t ht;by_cases hex:∃ (j:Nat) (p:Oper),ops[j]?=some p∧p.dst=some t
    ·obtain⟨j,p,hp,hd⟩:=hex;have hj:=(Array.getElem?_eq_some_iff.1 hp).1;have huniq:∀ k q,ops[k]?=some q→q.dst=some t→k=j:=fun k q hq hqd=>by
      by_cases e:k=j
      ·exact e
      ·exact absurd hqd (hok.two k j q p t hq hp hd e)
     by_cases e:i=j
     ·subst e;rw[hsee.miss t (fun k q hq hl hqd=>hnl ((huniq k q hq hqd)▸hl)),hte.miss t (fun k q hq hl hqd=>by have:=huniq k q hq hqd;omega)]
     ·have h1:=hok.look i j o p t ho hp hd e ht;by_cases hlt:j<i
      ·rw[if_pos hlt]at h1;rw[hsee.hit j p t hp hd (hbits j h1),hte.hit j p t hp hd hlt]
      ·rw[if_neg hlt]at h1;have hjn:¬ lst listed j:=fun hjl=>hahead j p hp hjl h1;rw[hsee.miss t (fun k q hq hl hqd=>hjn ((huniq k q hq hqd)▸hl)),hte.miss t (fun k q hq hl hqd=>by have:=huniq k q hq hqd;omega)]
    ·rw[hsee.miss t (fun k q hq _ hqd=>hex ⟨k,q,hq,hqd⟩),hte.miss t (fun k q hq _ hqd=>hex ⟨k,q,hq,hqd⟩)]
   have hwr:∀ id,(id∈(fs i).R∨id∈(fs i).W.map (·.1))→∀ j ob,j<ops.size→get? (fs j).W id=some ob→j≠i→(lst listed j↔j<i):=by
    intro id hid j ob hj hw hne;have hm:id∈(infOf (vs j) (fs j)).W:=w_mem hw;obtain⟨p,hp⟩:=hget j hj;rcases Nat.lt_or_ge j i with hlt | hge
    ·refine⟨fun _=>hlt,fun _=>hbits j (hI.c j i hlt hil ?_)⟩;rcases hid with h | h
     ·have:=meets_of hm (show id∈(infOf (vs i) (fs i)).R from h);simp[this]
     ·have:=meets_of hm (show id∈(infOf (vs i) (fs i)).W from h);simp[this]
    ·have hlt:i<j:=by omega
     refine⟨fun hjl=>(hahead j p hp hjl (hI.c i j hlt hj ?_)).elim,fun h=>by omega⟩;rcases hid with h | h
     ·have:=meets_of (show id∈(infOf (vs i) (fs i)).R from h) hm;simp[this]
     ·have:=meets_of (show id∈(infOf (vs i) (fs i)).W from h) hm;simp[this]
   have hlike:∀ (_:kindB (τ i) (fs i)=true),newOK (τ i) (fs i)=true→Like o (τ i) σ' (fs i):=by
    intro hkind hnew;refine⟨fun t ht v hv=> .inr (by rw[hlook t (List.mem_append_left _ ht)];exact hv),fun id hid=>hsee.same hte id fun j ob hj hw=>?_,fun id hid T cs hb=>?_,fun d hd=>?_⟩
    ·by_cases e:j=i
     ·subst e;exact⟨fun h=>absurd h hnl,fun h=>absurd h (by omega)⟩
     ·exact hwr id (.inl hid) j ob hj hw e
    ·
     have hbox:∀ j ob,j<ops.size→get? (fs j).W id=some ob→isBox ob=true:=by
      intro j ob hj hw;rcases Nat.lt_or_ge j i with hlt | hge
      ·obtain⟨p,hp,hstp,he⟩:=hst j hj;have h1:get? (τ (j+1)).objs id=some ob:=by rw[he];simp only[AS.upd,get?_app,hw]
       obtain⟨ob2,h2,h3⟩:=hpres (j+1) i (by omega) (by omega) id ob h1;rw[hb]at h2;injection h2 with h2;subst h2;exact h3.symm
      ·obtain⟨ob2,h2,h3⟩:=hpres i j hge (by omega) id _ hb;exact(hkind2 j hj id ob hw ob2 h2).trans h3
     have some_box:∀ ob,isBox ob=true→∃ T' cs',ob= .box T' cs':=fun ob h=>by
      cases ob with
      | box T' cs'=>exact⟨T',cs',rfl⟩
      | row=>cases h
      | dead=>cases h
      | own=>cases h
     rcases last_of (p:=fun j=>lst listed j∧∃ ob,get? (fs j).W id=some ob) ops.size with hn | ⟨j,hj,⟨hjl,ob',hw⟩,hlast⟩
     ·have h0:get? σ'.objs id=get? (τ 0).objs id:=hsee.omiss id (fun j hj hl=>by
       cases e:get? (fs j).W id with
       | none=>rfl
       | some ob=>exact absurd ⟨hl,ob,e⟩ (hn j hj))
      rw[h0];rcases first_of (p:=fun j=>∃ ob,get? (fs j).W id=some ob) i with hn2 | ⟨j,hj,⟨ob,hw⟩,hfirst⟩
      ·have:=hte.omiss id (fun j hj hl=>by
        cases e:get? (fs j).W id with
        | none=>rfl
        | some ob=>exact absurd ⟨ob,e⟩ (hn2 j hl))
       rw[←this];exact⟨T,cs,hb⟩
      ·have h1:get? (τ j).objs id=get? (τ 0).objs id:=(htext j (by omega)).omiss id (fun k hk hl=>by
        cases e:get? (fs k).W id with
        | none=>rfl
        | some ob=>exact absurd ⟨ob,e⟩ (hfirst k hl))
       rw[←h1];obtain⟨p,hp,hstp,he⟩:=hst j (by omega);rcases hstp with ⟨_,_,hkd,_⟩ | ⟨_,_,_,_,_,hf⟩
       ·unfold kindB at hkd;have h5:=List.all_eq_true.1 hkd _ (get?_mem hw);simp only[Bool.or_eq_true]at h5;rcases h5 with h5 | h5
        ·cases en:(fs j).nw with
         | none=>rw[en]at h5;cases h5
         | some d=>
           rw[en]at h5;have:=Nat.eq_of_beq_eq_true h5;subst this;have hb2:=hI.c j i hj hil (by
            have:=meets_of (show id∈(infOf (vs j) (fs j)).nw.toList by show id∈(fs j).nw.toList;rw[en];simp) (show id∈(infOf (vs i) (fs i)).X from hid);simp[this])
           exact absurd ⟨hbits j hb2,ob,hw⟩ (hn j (by omega))
        ·cases eo:get? (τ j).objs id with
         | none=>rw[eo]at h5;cases h5
         | some o2=>
           rw[eo]at h5;have h6:isBox o2=isBox ob:=by simpa using h5
           obtain⟨T',cs',rfl⟩:=some_box o2 (by rw[h6];exact hbox j ob (by omega) hw);exact⟨T',cs',rfl⟩
       ·rw[hf]at hw;simp[get?]at hw
     ·have:=hsee.ohit j id ob' hj hjl hw (fun k h1 h2 h3=>by
       cases e:get? (fs k).W id with
       | none=>rfl
       | some ob=>exact absurd ⟨h3,ob,e⟩ (hlast k h1 h2))
      rw[this];obtain⟨T',cs',rfl⟩:=some_box ob' (hbox j ob' hj hw);exact⟨T',cs',rfl⟩
    ·have hnr:noRef (τ i) d=true:=by
      unfold newOK at hnew;rw[hd]at hnew;exact hnew
     have hn0:=noRef.out (hback i d (by omega) hnr);have hni:=noRef.out hnr;have hrf:∀ j p,ops[j]?=some p→j≠i→lst listed j→d∈(infOf (vs j) (fs j)).rf→False:=fun j p hp hne hjl hm=>
      hahead j p hp hjl (hI.n j i hne (Array.getElem?_eq_some_iff.1 hp).1 hil (meets_of (show d∈(infOf (vs i) (fs i)).nw.toList by show d∈(fs i).nw.toList;rw[hd];simp) hm))
     refine⟨fun t v ht=>?_,fun id ob hid=>?_⟩
     ·by_cases hex:∃ (j:Nat) (p:Oper),ops[j]?=some p∧lst listed j∧p.dst=some t
      ·obtain⟨j,p,hp,hjl,hd'⟩:=hex;rw[hsee.hit j p t hp hd' hjl]at ht;injection ht with ht;subst ht;cases er:refsA d (vs j)with
       | false=>rfl
       | true=>exact(hrf j p hp (fun e=>hnl (e▸hjl)) hjl (List.mem_append_left _ (by unfold refsA at er;simpa using er))).elim
      ·rw[hsee.miss t (fun j p hp hl hd'=>hex ⟨j,p,hp,hl,hd'⟩)]at ht;exact hn0.env t v ht
     ·rcases last_of (p:=fun j=>lst listed j∧∃ ob,get? (fs j).W id=some ob) ops.size with hn | ⟨j,hj,⟨hjl,ob',hw⟩,hlast⟩
      ·rw[hsee.omiss id (fun j hj hl=>by
        cases e:get? (fs j).W id with
        | none=>rfl
        | some ob=>exact absurd ⟨hl,ob,e⟩ (hn j hj))]at hid
       exact hn0.obj id ob hid
      ·rw[hsee.ohit j id ob' hj hjl hw (fun k h1 h2 h3=>by
        cases e:get? (fs k).W id with
        | none=>rfl
        | some ob=>exact absurd ⟨h3,ob,e⟩ (hlast k h1 h2))]at hid
       injection hid with hid;subst hid;obtain⟨p,hp⟩:=hget j hj;have hne:j≠i:=fun e=>hnl (e▸hjl);refine⟨fun e=>?_,?_⟩
       ·subst e;rcases Nat.lt_or_ge j i with hlt | hge
        ·obtain⟨p',hp',hstp,he⟩:=hst j hj;have h1:get? (τ (j+1)).objs id=some ob':=by rw[he];simp only[AS.upd,get?_app,hw]
         obtain⟨ob2,h2,_⟩:=hpres (j+1) i (by omega) (by omega) id ob' h1;exact(hni.obj id ob2 h2).1 rfl
        ·refine hahead j p hp hjl (hI.c i j (by omega) hj ?_);have:=meets_of (show id∈(infOf (vs i) (fs i)).nw.toList by show id∈(fs i).nw.toList;rw[hd];simp) (show id∈(infOf (vs j) (fs j)).W from w_mem hw);simp[this]
       ·cases er:refsO d ob' with
        | false=>rfl
        | true=>
          refine(hrf j p hp hne hjl (List.mem_append_right _ (List.mem_flatMap.2 ⟨_,get?_mem hw,?_⟩))).elim;unfold refsO at er;simpa using er
   have hset:=lst_set hil';have go:∀ a' w',St C (σ'.upd o.dst (vs i) (fs i).W) a' w'→wpAny P .any ops (liftQ C Q) fuel (listed.setIfInBounds i true) a' w':=fun a' w' hs'=>by
    refine ih _ _ a' w' (by simp[hsz]) (fun j p hp hj e he hb=>?_) (unl_set hun hf) (hsee.step hok ho hset (fun id ob hw j h1 h2 h3=>?_)) hs'
    ·rcases (hset j).1 hj with h | h
     ·exact(hset _).2 (.inl (hcl j p hp h e he hb))
     ·subst h;rw[ho]at hp;injection hp with hp;subst hp;exact(hset _).2 (.inl (hedges e he hb))
    ·cases e:get? (fs j).W id with
     | none=>rfl
     | some ob'=>exact absurd ((hwr id (.inr (w_mem hw)) j ob' h2 e (by omega)).1 h3) (by omega)
   obtain⟨β,hinv⟩:=id hs;have hdst:=hnt i o ho;have hguard:∀ g b,o.guard=some (g,b)→∀ t,gslot ops g=some t→get? σ'.env t=get? (τ i).env t:=fun g b hg t ht=>hlook t (List.mem_append_right _ (by rw[hg];simp[ht]));simp only[wpOp,ho];rcases hstep with ⟨hg,h,hkd,hn⟩ | ⟨g,b,hg,hb,hv,hf'⟩
   ·have hrun:=h _ (hlike hkd hn) hdst a w (wpAny P .any ops (liftQ C Q) fuel (listed.setIfInBounds i true)) (liftQ C Q) hs go;rcases hg with hg | ⟨g,b,hg,hb⟩
    ·rw[if_pos (by simp[Region.wanted,hg])];exact .inl hrun
    ·have hb':isB σ' (gslot ops g) b:=by
      unfold isB at hb ⊢;cases hsl:gslot ops g with
      | none=>rw[hsl]at hb;exact hb
      | some t=>
        rw[hsl]at hb;simp only at hb ⊢;rw[hguard g b hg t hsl];exact hb
     rw[if_pos (by simp[Region.wanted,hg,hb'.yields hinv])];exact .inl hrun
   ·have hb':notB σ' (gslot ops g) b:=by
     unfold notB at hb ⊢;cases hsl:gslot ops g with
     | none=>rw[hsl]at hb;exact hb
     | some t=>
       rw[hsl]at hb;simp only at hb ⊢;rw[hguard g b hg t hsl];exact hb
    rw[if_neg (by have:=hb'.yields hinv;simp[Region.wanted,hg,this])];refine go _ _ ?_;rw[hv,hf'];exact⟨β,hinv.offS _ (dstOK.out hdst)⟩
end
def AC(P:Program)(C:Cx)(c:Code)(Q:Exit→AS→Prop)(σ:AS):Prop:=∀ a w,St C σ a w→c.wp P (liftQ C Q) a w
section
variable {P:Program}{C:Cx}{Q:Exit→AS→Prop}{σ:AS}
section
variable {w0:World}{S0:Nat→Prop}{M:List Value}{nt id:Nat}{l:List Oper}
def noFin:List Inf→Prop:=fun _=>True
theorem Chain.mono{ops:Array Oper}{fin:List Inf→Prop}{K K':AS→Prop}{m:Option (List Inf)}{l:List Oper}(h:Chain P C ops fin K m l σ)(hk:∀ σ,K σ→K' σ):Chain P C ops fin K' m l σ:=by
 induction h with
 | nil hm h=>exact .nil hm (hk _ h)
 | step v f hg h hkd hn _ ih=>exact .step v f hg h hkd hn ih
 | off g b hg hb _ ih=>exact .off g b hg hb ih
 | weak σ' h _ ih=>exact .weak σ' h ih
 | any V h _ ih=>exact .any V h ih
 | eff V hg h _ ih=>exact .eff V hg h ih
theorem Chain.noGuard{ops:Array Oper}{fin:List Inf→Prop}{K:AS→Prop}{m:Option (List Inf)}{l:List Oper}(h:Chain P C #[] fin K m l σ)(hg:(l.all fun o=>o.guard.isNone)=true):Chain P C ops fin K m l σ:=by
 induction h with
 | nil hm h=>exact .nil hm h
 | @step m o rest σ v f hg' h hkd hn _ ih=>
   simp only[List.all_cons,Bool.and_eq_true]at hg;refine .step v f (.inl ?_) h hkd hn (ih hg.2);simpa using hg.1
 | off g b hg' hb _ ih=>simp[hg']at hg
 | weak σ' h _ ih=>exact .weak σ' h (ih hg)
 | any V h _ ih=>exact .any V h fun σ' hv=>ih σ' hv hg
 | eff V hg' h _ ih=>
   simp only[List.all_cons,Bool.and_eq_true]at hg;exact .eff V hg' h fun σ' hv=>ih σ' hv hg.2
theorem AC.reg(hd:(l.all fun o=>dstOK nt o&&o.guard.isNone)=true)(h:∀ K:AS→Prop,(∀σ,Q .normal σ→K σ)→Chain P ⟨w0,S0,M,nt⟩ #[] noFin K none l σ):AC P ⟨w0,S0,M,nt⟩ (.region id l.toArray false) Q σ:=fun a w hs=>by
 have h1:(l.all (dstOK nt))=true:=List.all_eq_true.2 fun o ho=>by have:=List.all_eq_true.1 hd o ho;rw[Bool.and_eq_true]at this;exact this.1
 have h2:(l.all fun o=>o.guard.isNone)=true:=List.all_eq_true.2 fun o ho=>by have:=List.all_eq_true.1 hd o ho;rw[Bool.and_eq_true]at this;exact this.2
 exact wp_region_lit (((h _ fun _ h=>h).noGuard h2).seq (fun o ho=>List.all_eq_true.1 h1 o ho) a w hs)
theorem AC.regG(hd:(l.all (dstOK nt))=true)(h:∀ K:AS→Prop,(∀σ,Q .normal σ→K σ)→Chain P ⟨w0,S0,M,nt⟩ l.toArray noFin K none l σ):AC P ⟨w0,S0,M,nt⟩ (.region id l.toArray false) Q σ:=fun a w hs=>
 wp_region_lit ((h _ fun _ h=>h).seq (fun o ho=>List.all_eq_true.1 hd o ho) a w hs)
def fin(ms:List Nat):List Inf→Prop:=fun acc=>okI ms acc=true
theorem AC.drawnN(hm:P.follows .mixedOrders=true)(hok:regOK l.toArray=true)(hd:(l.all (dstOK nt))=true)(h:Chain P ⟨w0,S0,M,nt⟩ l.toArray (fin (bf l [])) (Q .normal) (some []) l σ):AC P ⟨w0,S0,M,nt⟩ (.region id l.toArray true) Q σ:=by
 intro a w hs;obtain⟨vs,fs,τ,tot,h1,h3,h4,h5,h6,_,h8⟩:=Chain.steps l.toArray.size 0 l σ [] (by omega) rfl h (by simp);refine wp_region_any hm ?_;have hnt:∀ (i:Nat) (o:Oper),l.toArray[i]?=some o→dstOK nt o=true:=fun i o ho=>List.all_eq_true.1 hd o (List.mem_of_getElem? (by simpa using ho));subst h1;obtain⟨β,hi⟩:=hs;have hx:Ext w {w with drawn:=w.drawn+1 }:=⟨rfl,rfl,rfl,Nat.le_refl _,fun _ _=>rfl⟩
 have hnone:∀ i,¬lst (Array.replicate l.toArray.size false) i:=fun i=>by
  simp only[lst,Array.getD_eq_getD_getElem?,Array.getElem?_replicate];split<;>simp
 have hI:=okI.out h5 (fun i=>infOf (vs i) (fs i)) (fun i hi=>h8 i (Nat.zero_le _) (by rw[←h6];exact hi));rw[h6]at hI;refine loc_any (regOK.out hok) (by simpa using hI) hnt (fun i hi=>h3 i (Nat.zero_le _) hi) h4 _ _ (τ 0) a _ (by simp) (fun k o _ h=>absurd h (hnone k)) ?_ (Sees.start _ _ _ _ _ hnone) ⟨β,hi.ext hx⟩;refine Nat.le_trans List.count_le_length (by simp)
theorem AC.drw(hm:P.follows .mixedOrders=true)(hok:((l.all fun o=>dstOK nt o&&o.guard.isNone)&&regOK l.toArray)=true)(h:∀ (K:AS→Prop) (ms:List Nat),ms=bf l []→(∀σ,Q .normal σ→K σ)→Chain P ⟨w0,S0,M,nt⟩ #[] (fin ms) K (some []) l σ):AC P ⟨w0,S0,M,nt⟩ (.region id l.toArray true) Q σ:=by
 simp only[Bool.and_eq_true]at hok;have h1:(l.all (dstOK nt))=true:=List.all_eq_true.2 fun o ho=>by have:=List.all_eq_true.1 hok.1 o ho;rw[Bool.and_eq_true]at this;exact this.1
 have h2:(l.all fun o=>o.guard.isNone)=true:=List.all_eq_true.2 fun o ho=>by have:=List.all_eq_true.1 hok.1 o ho;rw[Bool.and_eq_true]at this;exact this.2
 exact AC.drawnN hm hok.2 h1 ((h _ _ rfl fun _ h=>h).noGuard h2)
theorem AC.drwG(hm:P.follows .mixedOrders=true)(hok:((l.all fun o=>dstOK nt o)&&regOK l.toArray)=true)(h:∀ (K:AS→Prop) (ms:List Nat),ms=bf l []→(∀σ,Q .normal σ→K σ)→Chain P ⟨w0,S0,M,nt⟩ l.toArray (fin ms) K (some []) l σ):AC P ⟨w0,S0,M,nt⟩ (.region id l.toArray true) Q σ:=by
 simp only[Bool.and_eq_true]at hok;exact AC.drawnN hm hok.2 hok.1 (h _ _ rfl fun _ h=>h)
end
theorem AC.mono{c:Code}{Q':Exit→AS→Prop}(h:AC P C c Q' σ)(hq:∀ e σ,Q' e σ→Q e σ):AC P C c Q σ:=fun a w hs=>Code.wp_mono (fun e _ _ ⟨σ,h1,h2⟩=>⟨σ,hq e σ h1,h2⟩) (h a w hs)
def AThen(next:AS→Prop)(Q:Exit→AS→Prop):Exit→AS→Prop
 | .normal,σ=>next σ
 | e,σ=>Q e σ
def ABlock(id:Nat)(Q:Exit→AS→Prop):Exit→AS→Prop
 | .exit id',σ=>bif Nat.beq id' id then Q .normal σ else Q (.exit id') σ
 | e,σ=>Q e σ
theorem AC.seq{x y:Code}(h:AC P C x (AThen (AC P C y Q) Q) σ):AC P C (.seq x y) Q σ:=fun a w hs=>by
 refine wp_seq (Code.wp_mono ?_ (h a w hs));rintro e a' w' ⟨σ',h1,h2⟩;cases e with
 | normal=>exact h1 a' w' h2
 | _=>exact⟨σ',h1,h2⟩
theorem AC.skip(h:Q .normal σ):AC P C .skip Q σ:=fun _ _ hs=>wp_skip ⟨σ,h,hs⟩
theorem AC.exit{id:Nat}(h:Q (.exit id) σ):AC P C (.exit id) Q σ:=fun _ _ hs=>wp_exit ⟨σ,h,hs⟩
theorem AC.ret(h:Q .ret σ):AC P C .ret Q σ:=fun _ _ hs=>wp_ret ⟨σ,h,hs⟩
theorem AC.block{id:Nat}{c:Code}(h:AC P C c (ABlock id Q) σ):AC P C (.block id c) Q σ:=fun a w hs=>by
 refine wp_block (Code.wp_mono ?_ (h a w hs));rintro e a' w' ⟨σ',h1,h2⟩;cases e with
 | exit id'=>
   simp only[Exit.inBlock];simp only[ABlock]at h1;by_cases e:id'=id
   ·subst e;rw[if_pos rfl];simp at h1;exact⟨σ',h1,h2⟩
   ·have hb:Nat.beq id' id=false:=by
     cases hb:Nat.beq id' id with
     | false=>rfl
     | true=>exact absurd (Nat.eq_of_beq_eq_true hb) e
    rw[if_neg e];rw[hb]at h1;exact⟨σ',h1,h2⟩
 | _=>exact⟨σ',h1,h2⟩
theorem St.bool{c:Operand}{b:Bool}{a:Act}{w:World}(h:ev σ c= .d (.v (.bool b)))(hs:St C σ a w):a.eval c= .bool b:=by
 obtain⟨β,hi⟩:=hs;have:=hi.ev c;rw[h]at this;generalize a.eval c=u at*;cases this;rfl
theorem AC.condT{c:Operand}{x y:Code}(h:ev σ c= .d (.v (.bool true)))(k:AC P C x Q σ):AC P C (.cond c x y) Q σ:=fun a w hs=>wp_cond_true (St.bool h hs) (k a w hs)
theorem AC.condF{c:Operand}{x y:Code}(h:ev σ c= .d (.v (.bool false)))(k:AC P C y Q σ):AC P C (.cond c x y) Q σ:=fun a w hs=>wp_cond_false (St.bool h hs) (k a w hs)
def subEnv:List (Nat×AV)→List (Nat×AV)→Prop
 | _,[]=>True
 | e,(t,v)::r=>get? e t=some v∧subEnv e r
def subObj:List (Nat×AO)→List (Nat×AO)→Prop
 | _,[]=>True
 | e,(t,v)::r=>get? e t=some v∧subObj e r
theorem subEnv.out{e:List (Nat×AV)}:∀ {r:List (Nat×AV)},subEnv e r→∀ t v,get? r t=some v→get? e t=some v
 | [],_,t,v,h=>by simp[get?]at h
 | (t',v')::r,⟨h1,h2⟩,t,v,h=>by
   rw[get?_cons]at h;by_cases e:t'=t
   ·rw[if_pos e]at h;injection h with h;subst e h;exact h1
   ·rw[if_neg e]at h;exact h2.out t v h
theorem subObj.out{e:List (Nat×AO)}:∀ {r:List (Nat×AO)},subObj e r→∀ t v,get? r t=some v→get? e t=some v
 | [],_,t,v,h=>by simp[get?]at h
 | (t',v')::r,⟨h1,h2⟩,t,v,h=>by
   rw[get?_cons]at h;by_cases e:t'=t
   ·rw[if_pos e]at h;injection h with h;subst e h;exact h1
   ·rw[if_neg e]at h;exact h2.out t v h
theorem St.sub{σ':AS}{a:Act}{w:World}(hs:St C σ a w)(he:subEnv σ.env σ'.env)(ho:subObj σ.objs σ'.objs):St C σ' a w:=by
 obtain⟨β,hi⟩:=hs;have hD:∀ b,Dat C β σ.objs w b→Dat C β σ'.objs w b∧w.heap[b]?=w.heap[b]?:=fun b hb=>⟨⟨hb.1,hb.2.1,fun id o h=>hb.2.2 id o (ho.out id o h)⟩,rfl⟩
 have hA:∀ {u:Value} {x:AV},RA (Dat C β σ.objs w) w β σ.objs u x→RA (Dat C β σ'.objs w) w β σ'.objs u x:=fun h=>
  h.keep hD (fun id T cs h=>⟨⟨T,cs,ho.out _ _ h⟩,rfl⟩) (fun id g e k xs h=>⟨g,e,k,xs,ho.out _ _ h,Nat.le_refl _,fun _=>⟨rfl,rfl⟩⟩)
 refine⟨β,hi.defs,hi.nt,hi.os,hi.tape,hi.output,hi.size,hi.fr,fun t v ht=>?_,fun id o hid=>?_,fun i j oi oj b h1 h2=>hi.dis i j oi oj b (ho.out _ _ h1) (ho.out _ _ h2),fun i oi b h1=>hi.own i oi b (ho.out _ _ h1),fun i x o h1 h2=>hi.pin i x o h1 (ho.out _ _ h2)⟩
 ·obtain⟨u,h1,h2⟩:=hi.env t v (he.out t v ht);exact⟨u,h1,hA h2⟩
 ·have:=hi.obj id o (ho.out id o hid);cases o with
  | box T cs=>
    obtain⟨b,us,h1,h2,h3,h4,h5⟩:=this;exact⟨b,us,h1,h2,h3,h4,fun i h h'=>hA (h5 i h h')⟩
  | row g e k xs=>
    obtain⟨css,h1,h2,h3,h4⟩:=this;exact⟨css,h1,fun i h h'=>(h2 i h h').mono fun b hb=>(hD b hb).1,h3,h4⟩
  | dead=>trivial
  | own x R=>exact⟨this.1,this.2.2 _ _ _ _ this.2.1 hD fun b _=>rfl,this.2.2⟩
theorem AC.sub{c:Code}(σ':AS)(he:subEnv σ.env σ'.env)(ho:subObj σ.objs σ'.objs)(h:AC P C c Q σ'):AC P C c Q σ:=fun a w hs=>h a w (hs.sub he ho)
theorem AC.weak{c:Code}(σ':AS)(hw:∀ a w,St C σ a w→St C σ' a w)(h:AC P C c Q σ'):AC P C c Q σ:=fun a w hs=>h a w (hw a w hs)
theorem AC.loopW{X:Type}{c:Code}(F:X→AS)(I:X→Prop)(μ:X→Nat)(x0:X)(h0:I x0)(he:∀ a w,St C σ a w→St C (F x0) a w)
  (h:∀ x,I x→AC P C c (AThen (fun σ'=>∃ x',I x'∧μ x'<μ x∧∀ a w,St C σ' a w→St C (F x') a w) Q) (F x)):AC P C (.loop c) Q σ:=by
 intro a w hs;have hs0:=he a w hs;clear hs he;intro b k cs;have key:∀ n x,μ x=n→I x→∀ a w,St C (F x) a w→
   ∃e a' w',liftQ C Q e a' w'∧Arrives P (lone (b.at a (.code c:: .inLoop c::k)) cs w) b k cs e a' w':=by
  intro n
  induction n using Nat.strongRecOn with
  | _ n ih=>
    intro x hn hI a w hs;obtain⟨e,a₁,w₁,hq,harr⟩:=h x hI a w hs b (.inLoop c::k) cs;obtain⟨σ',hq,hs'⟩:=hq;cases e with
    | normal=>
      obtain⟨x',hI',hlt,he⟩:=hq;obtain⟨e₂,a₂,w₂,hq₂,harr₂⟩:=ih (μ x') (hn▸hlt) x' rfl hI' a₁ w₁ (he a₁ w₁ hs');exact⟨e₂,a₂,w₂,hq₂,.of_steps (Steps.trans harr (.one step_inLoop)) harr₂⟩
    | exit id=>exact⟨_,a₁,w₁,⟨σ',hq,hs'⟩,.pass (x:= .inLoop c) rfl (fun _ _=> .inl (by simp)) harr⟩
    | goto l=>exact⟨_,a₁,w₁,⟨σ',hq,hs'⟩,.pass (x:= .inLoop c) rfl (fun _ _=> .inl (by simp)) harr⟩
    | ret=>exact⟨_,a₁,w₁,⟨σ',hq,hs'⟩,.pass (x:= .inLoop c) rfl (fun _ _=> .inl (by simp)) harr⟩
    | panic ch=>exact⟨_,a₁,w₁,⟨σ',hq,hs'⟩,.pass (x:= .inLoop c) rfl (fun _ _=> .inl (by simp)) harr⟩
    | outgrown=>exact⟨_,a₁,w₁,⟨σ',hq,hs'⟩,.pass (x:= .inLoop c) rfl (fun _ _=> .inl (by simp)) harr⟩
 obtain⟨e,a',w',hq,harr⟩:=key _ x0 rfl h0 a w hs0;exact⟨e,a',w',hq,.of_steps (.one step_loop) harr⟩
theorem AC.loop{X:Type}{c:Code}(F:X→AS)(I:X→Prop)(μ:X→Nat)(x0:X)(h0:I x0)(he:subEnv σ.env (F x0).env)(ho:subObj σ.objs (F x0).objs)
  (h:∀ x,I x→AC P C c (AThen (fun σ'=>∃ x',I x'∧μ x'<μ x∧subEnv σ'.env (F x').env∧subObj σ'.objs (F x').objs) Q) (F x)):AC P C (.loop c) Q σ:=
 AC.loopW F I μ x0 h0 (fun _ _ hs=>hs.sub he ho) fun x hx=>(h x hx).mono fun e σ' hq=>by
  cases e with
  | normal=>
    obtain⟨x',h1,h2,h3,h4⟩:=hq;exact⟨x',h1,h2,fun _ _ hs=>hs.sub h3 h4⟩
  | _=>exact hq
end
end Go.Proofs.YtbbpecfapohlaaaGreatDoor
