import Derived.Test.YtbbpecfapohlaaaGreatDoorOpen
import Derived.Test.YtbbpecfapohlaaaGreatDoorK1
import Derived.Test.YtbbpecfapohlaaaGreatDoorP1
namespace Go.Proofs.YtbbpecfapohlaaaGreatDoor
open Go.RowKit Go.ChangeShapes Go.WideShapes
section
variable {H:Type}{enc:TypeId×Value→H}{P:Program}{W:World}{α β:Type}{m:Nat}
def OD(enc:TypeId×Value→H)(P:Program)(W:World)(m:Nat)(t:TypeId)(Q:List D→Prop):Prop:=
 ∀n,n<m→∀ cs d ps,DataW.trod enc P W 0 (fun _=>true) true n t cs=some (d,ps)→∃ ds,RDs (Lt W.heap.size) W cs ds∧Q ds
theorem OD.less{m':Nat}{t:TypeId}{Q:List D→Prop}(h:OD enc P W m t Q)(hm:m'≤m):OD enc P W m' t Q:=fun n hn=>h n (by omega)
theorem OD.imp{t:TypeId}{Q Q':List D→Prop}(h:OD enc P W m t Q)(hq:∀ ds,Q ds→Q' ds):OD enc P W m t Q':=fun n hn cs d ps hx=>by
 obtain⟨ds,h1,h2⟩:=h n hn cs d ps hx;exact⟨ds,h1,hq ds h2⟩
theorem RDs.val{S:Nat→Prop}{w:World}{v:Value}(h:v.oneCell'=true):RDs S w [v] [.v v]:= .cons (.v h) .nil
def QBool(ds:List D):Prop:=∃ b,ds=[.v (.bool b)]
def QInt(k:IntKind)(ds:List D):Prop:=∃ n,ds=[.v (.int k n)]∧k.min≤n∧n≤k.max
def QList(Q:List D→Prop)(ds:List D):Prop:=∃ xs:List (List D),ds=[.l xs]∧(∀x∈xs,Q x)∧xs.length≤9223372036854775807
def QAll:List (List D→Prop)→List D→Prop
 | [],ds=>ds=[]
 | Q::Qs,ds=>∃ d r,ds=d++r∧Q d∧QAll Qs r
def QOf{γ:Type}(en:γ→List D)(ok:γ→Prop)(ds:List D):Prop:=∃ a,ds=en a∧ok a
theorem QList.of{γ:Type}{Q:List D→Prop}{en:γ→List D}{ok:γ→Prop}(h:∀ ds,Q ds→QOf en ok ds){ds:List D}(hq:QList Q ds):QOf (fun l:List γ=>[.l (l.map en)]) (fun l=>(∀x∈l,ok x)∧l.length≤9223372036854775807) ds:=by
 obtain⟨xs,rfl,h1,h2⟩:=hq;have:∀ xs:List (List D),(∀x∈xs,Q x)→∃ l:List γ,xs=l.map en∧∀ x∈l,ok x:=by
  intro xs
  induction xs with
  | nil=>intro _;exact⟨[],rfl,by simp⟩
  | cons x xs ih=>
    intro hx;obtain⟨a,e1,e2⟩:=h x (hx x (by simp));obtain⟨l,e3,e4⟩:=ih fun y hy=>hx y (by simp[hy]);refine⟨a::l,by rw[e1,e3];rfl,fun y hy=>?_⟩;rcases List.mem_cons.1 hy with e5 | e5
    ·rw[e5];exact e2
    ·exact e4 y e5
 obtain⟨l,e1,e2⟩:=this xs h1;subst e1;exact⟨l,rfl,e2,by simpa using h2⟩
theorem OD.bool{t:TypeId}(ht:P.underlying t=some .bool)(m:Nat):OD enc P W m t QBool:=by
 intro n _ cs d ps h;obtain⟨b,rfl,hx⟩:=DataW.trod_bool ht h;exact⟨_,.val rfl,b,rfl⟩
theorem OD.int{t:TypeId}{k:IntKind}(ht:P.underlying t=some (.int k))(m:Nat):OD enc P W m t (QInt k):=by
 intro n _ cs d ps h;obtain⟨x,rfl,hx,hw⟩:=DataW.trod_int ht h;simp only[Lit.wf,Bool.and_eq_true,decide_eq_true_eq]at hw;exact⟨_,.val rfl,x,rfl,hw.1,hw.2⟩
theorem OD.slice{t e:TypeId}{k:Nat}{Q:List D→Prop}(ht:P.underlying t=some (.slice e))(hk:P.cellsOf e=k+1)(he:OD enc P W m e Q):OD enc P W (m+1) t (QList Q):=by
 intro n hn cs d ps h;rcases DataW.trod_slice ht h with ⟨rfl,hx⟩ | ⟨a,len,cap,elems,rest,n',hf,rfl,hx,_,hl,hm,hlen,hel,_,_⟩
 ·exact⟨[.l []],.cons .nil .nil,[],rfl,by simp,by simp⟩
 ·have hall:∀ i,i<len→∃ x:List D×List Value,W.cells? 0 (a.add (i*P.cellsOf e)) (P.cellsOf e)=some x.2∧RDs (Lt W.heap.size) W x.2 x.1∧Q x.1:=by
   intro i hi;have h1:=hel i hi;rw[List.getElem?_eq_getElem (by omega)]at h1;obtain⟨cs',hc1,hc2⟩:=Option.bind_eq_some_iff.1 h1;obtain⟨x,hx1,hx2⟩:=he n' (by omega) cs' elems[i].1 elems[i].2 hc2;exact⟨(x,cs'),hc1,hx1,hx2⟩
  obtain⟨xs,hxl,hxs⟩:=choose_list len hall;have hlm:len≤9223372036854775807:=by unfold maxLen at hm;omega
  refine⟨[.l (xs.map (·.1))],.cons ?_ .nil,xs.map (·.1),rfl,fun x hx=>?_,by simp;omega⟩
  ·refine RD.ofCells (k:=k+1) (css:=xs.map (·.2)) (by simp[hxl]) hl hm (by simp) (fun i h=>?_) (fun i h h'=>?_) (fun h0=>?_)
   ·have hi:i<xs.length:=by simpa using h
    obtain⟨hc,hr,_⟩:=hxs i hi;have:=(cells_at hc (by omega)).2.2.1;rw[List.getElem_map,←hr.1,this,hk]
   ·have hi:i<xs.length:=by simpa using h
    rw[List.getElem_map,List.getElem_map];exact(hxs i hi).2.1
   ·have hc0:=(hxs 0 (by omega)).1;have hz:=cells_at hc0 (by omega);have ha0:a.add (0*P.cellsOf e)=a:=by simp[Addr.add]
    rw[ha0]at hz;refine⟨a.block,a.off,?_,hz.2.1,fun i h j v hv=>?_⟩
    ·obtain⟨b,o,s⟩:=a;simp only at hz;rw[hz.1]
    ·have hi:i<xs.length:=by simpa using h
     obtain⟨hc,hr,_⟩:=hxs i hi;rw[List.getElem_map]at hv;obtain⟨hj,hv⟩:=List.getElem?_eq_some_iff.1 hv;have:=(cells_at hc (by omega)).2.2.2 j hj;rw[hk]at this;have e1:(a.add (i*(k+1))).block=a.block:=by unfold Addr.add;split<;>rfl
     have e2:(a.add (i*(k+1))).off=a.off+i*(k+1):=by unfold Addr.add;split<;>simp_all
     rw[e1,e2]at this;rw[this,hv]
  ·obtain⟨y,hy,rfl⟩:=List.mem_map.1 hx;obtain⟨i,hi,rfl⟩:=List.getElem_of_mem hy;exact(hxs i hi).2.2
def layB(P:Program):List Field→Nat→Option Nat
 | [],off=>some off
 | f::r,off=>bif Nat.beq f.offset off then layB P r (off+P.cellsOf f.type)else none
theorem od_fields(n:Nat)(cs:List Value):∀ (fs:List Field) (Qs:List (List D→Prop)) (off e:Nat),layB P fs off=some e→cs.length=e→fs.length=Qs.length→
  (∀i (h:i<fs.length) (_:i<Qs.length),∃x,DataW.trod enc P W 0 (fun _=>true) true n fs[i].type ((cs.drop fs[i].offset).take (P.cellsOf fs[i].type))=some x)→
  (∀i (h:i<fs.length) (h':i<Qs.length),OD enc P W (n+1) fs[i].type Qs[i])→∃ ds,RDs (Lt W.heap.size) W (cs.drop off) ds∧QAll Qs ds
 | [],[],off,e,h1,h2,_,_,_=>by
   simp only[layB,Option.some.injEq]at h1;subst h1;rw[List.drop_of_length_le (by omega)];exact⟨[],.nil,rfl⟩
 | f::fs,Q::Qs,off,e,h1,h2,h3,h4,h5=>by
   have hoff:f.offset=off:=by
    simp only[layB]at h1;cases hb:Nat.beq f.offset off with
    | true=>exact Nat.eq_of_beq_eq_true hb
    | false=>rw[hb]at h1;cases h1
   have hr:layB P fs (off+P.cellsOf f.type)=some e:=by
    simp only[layB,hoff]at h1;rw[show Nat.beq off off=true by simp]at h1;exact h1
   obtain⟨ds,h6,h7⟩:=od_fields n cs fs Qs _ e hr h2 (by simpa using h3) (fun i h h'=>h4 (i+1) (by simp;omega) (by simp;omega)) (fun i h h'=>h5 (i+1) (by simp;omega) (by simp;omega));obtain⟨⟨d,ps⟩,hx⟩:=h4 0 (by simp) (by simp);obtain⟨d1,h8,h9⟩:=h5 0 (by simp) (by simp) n (by omega) _ d ps hx;simp only[List.getElem_cons_zero,hoff]at h8 h9;refine⟨d1++ds,?_,d1,ds,rfl,h9,h7⟩;have:=h8.app h6;rwa[←List.drop_drop,List.take_append_drop]at this
 | [],_::_,_,_,_,_,h,_,_=>by simp at h
 | _::_,[],_,_,_,_,h,_,_=>by simp at h
theorem OD.struct{t:TypeId}{fs:List Field}(hs:P.underlying t=some (.struct fs.toArray))(Qs:List (List D→Prop))(hlay:layB P fs 0=some (P.cellsOf t))(hl:fs.length=Qs.length)
  (h:∀ i (h:i<fs.length) (h':i<Qs.length),OD enc P W m fs[i].type Qs[i]):OD enc P W (m+1) t (QAll Qs):=by
 intro n hn cs d ps hx;obtain⟨xs,n',e1,e2,e3,e4,e5⟩:=DataW.trod_struct hs hx;have hn':n'<m:=by omega
 obtain⟨ds,h1,h2⟩:=od_fields n' cs fs Qs 0 _ hlay e3 hl (fun i h _=>⟨xs[i]'(by simp at e4;omega),(e5 i fs[i] (by simp[h])).trans (List.getElem?_eq_getElem _)⟩) (fun i h1 h2=>(h i h1 h2).less (by omega));exact⟨ds,by simpa using h1,h2⟩
def layF(P:Program):List (Nat×Nat)→Nat→Option Nat
 | [],off=>some off
 | f::r,off=>bif Nat.beq f.2 off then layF P r (off+P.cellsOf f.1)else none
theorem layF_eq(P:Program):∀ (fs:List Field) (off:Nat),layF P (fs.map fun f=>(f.type,f.offset)) off=layB P fs off
 | [],_=>rfl
 | f::fs,off=>by simp only[List.map_cons,layF,layB,layF_eq P fs]
def ODs(enc:TypeId×Value→H)(P:Program)(W:World)(m:Nat):List (Nat×Nat)→List (List D→Prop)→Prop
 | [],[]=>True
 | f::fs,Q::Qs=>OD enc P W m f.1 Q∧ODs enc P W m fs Qs
 | _,_=>False
theorem ODs.at:∀ {fs:List (Nat×Nat)} {Qs:List (List D→Prop)},ODs enc P W m fs Qs→fs.length=Qs.length∧∀ i (h:i<fs.length) (h':i<Qs.length),OD enc P W m fs[i].1 Qs[i]
 | [],[],_=>⟨rfl,fun i h=>absurd h (by simp)⟩
 | f::fs,Q::Qs,h=>by
   obtain⟨h1,h2⟩:=ODs.at h.2;refine⟨by simp[h1],fun i h3 h4=>?_⟩;cases i with
   | zero=>exact h.1
   | succ i=>exact h2 i (by simpa using h3) (by simpa using h4)
theorem OD.fields{t:TypeId}{l:List (Nat×Nat)}(hs:fieldsOf P t=some l)(hlay:layF P l 0=some (P.cellsOf t)){Qs:List (List D→Prop)}(h:ODs enc P W m l Qs):OD enc P W (m+1) t (QAll Qs):=by
 obtain⟨fs,h1,h2⟩:=fields_some hs;subst h2;rw[layF_eq]at hlay;obtain⟨h3,h4⟩:=h.at
 refine OD.struct h1 Qs hlay (by simpa using h3) fun i h5 h6=>?_;have:=h4 i (by simpa using h5) h6;rwa[List.getElem_map]at this
theorem QAll.two{A B:List D→Prop}{ds:List D}(h:QAll [A,B] ds):∃ a b,ds=a++b∧A a∧B b:=by
 obtain⟨a,r,rfl,h1,b,r',rfl,h2,h3⟩:=h;obtain rfl:r'=[]:=h3;exact⟨a,b,by simp,h1,h2⟩
theorem QAll.three{A B C:List D→Prop}{ds:List D}(h:QAll [A,B,C] ds):∃ a b c,ds=a++(b++c)∧A a∧B b∧C c:=by
 obtain⟨a,r,rfl,h1,h2⟩:=h;obtain⟨b,c,rfl,h3,h4⟩:=QAll.two h2;exact⟨a,b,c,rfl,h1,h3,h4⟩
theorem RV.ofTrod{t:TypeId}{fs:Array Field}(ht:P.underlying t=some (.struct fs)){base:Nat}{v:Value}(hv:Value.okWide P W .any base t v){d:DataW H}{ps:List MemPlace}(h:DataW.Trod enc P W 0 (fun _=>true) true t v d ps){Q:List D→Prop}(hq:∀ m,OD enc P W m t Q):∃ ds,RV (Lt W.heap.size) W v (.g ds)∧Q ds:=by
 obtain⟨n,h1⟩:=h;obtain⟨cs,rfl,_⟩:=okWide_struct ht hv;obtain⟨ds,h2,h3⟩:=hq (n+1) n (by omega) _ d ps h1;exact⟨ds,⟨cs.toList,rfl,h2⟩,h3⟩
theorem RV.ofTrodL{t e:TypeId}(ht:P.underlying t=some (.slice e)){base:Nat}{v:Value}(hv:Value.okWide P W .any base t v){d:DataW H}{ps:List MemPlace}(h:DataW.Trod enc P W 0 (fun _=>true) true t v d ps){Q:List D→Prop}(hq:∀ m,OD enc P W m t (QList Q)):∃ xs,RV (Lt W.heap.size) W v (.d (.l xs))∧QList Q [.l xs]:=by
 obtain⟨n,h1⟩:=h;obtain⟨a,len,cap,rfl⟩:=okWide_slice ht hv;obtain⟨ds,h2,h3⟩:=hq (n+1) n (by omega) _ d ps h1;obtain⟨xs,rfl,h4,h5⟩:=h3;exact⟨xs,h2.2 0 (by simp[Value.cells]) (by simp),xs,rfl,h4,h5⟩
end
def bz(q:Rat):Nat:=max q.num.natAbs.log2 q.den.log2+1
theorem bd_bz(q:Rat):Bd (bz q) q:=by
 unfold Bd bz;exact⟨Nat.lt_of_lt_of_le Nat.lt_log2_self (Nat.pow_le_pow_right (by omega) (by omega)),Nat.lt_of_lt_of_le Nat.lt_log2_self (Nat.pow_le_pow_right (by omega) (by omega))⟩
theorem bz_le{k:Nat}{q:Rat}(h:Bd k q):bz q≤k:=by
 unfold bz;have h2:=(Nat.log2_lt q.den_nz).2 h.2;have h1:q.num.natAbs.log2<k:=by
  rcases Nat.eq_zero_or_pos q.num.natAbs with h0 | h0
  ·rw[h0];have:Nat.log2 0=0:=by decide
   omega
  ·exact(Nat.log2_lt (by omega)).2 h.1
 omega
theorem bz_pos(q:Rat):1≤bz q:=by unfold bz;omega
theorem bz_bd{k:Nat}{q:Rat}(h:bz q≤k):Bd k q:=(bd_bz q).mono h
theorem bz_add(a b:Rat):bz (a+b)≤bz a+bz b+1:=bz_le ((bd_bz a).add (bd_bz b))
theorem bz_mul(a b:Rat):bz (a*b)≤bz a+bz b:=bz_le ((bd_bz a).mul (bd_bz b))
def tb:List Tm→Nat
 | []=>0
 | t::l=>bz t.2+1+tb l
theorem tb_app(l m:List Tm):tb (l++m)=tb l+tb m:=by
 induction l with
 | nil=>simp[tb]
 | cons t l ih=>simp only[List.cons_append,tb,ih];omega
theorem tb_perm{l m:List Tm}(h:l.Perm m):tb l=tb m:=by
 induction h with
 | nil=>rfl
 | cons t _ ih=>simp only[tb,ih]
 | swap t u l=>simp only[tb];omega
 | trans _ _ h1 h2=>rw[h1,h2]
theorem tb_take(l:List Tm)(i:Nat):tb (l.take i)≤tb l:=by
 have:=tb_app (l.take i) (l.drop i);rw[List.take_append_drop]at this;omega
theorem tb_at{l:List Tm}{i:Nat}(h:i<l.length):tb (l.take i)+bz l[i].2+1≤tb l:=by
 have:=tb_take l (i+1);rw[List.take_succ_eq_append_getElem h,tb_app]at this;simp only[tb]at this;omega
theorem tb_mem{l:List Tm}{t:Tm}(h:t∈l):bz t.2+1≤tb l:=by
 obtain⟨i,hi,rfl⟩:=List.getElem_of_mem h;have:=tb_at hi;omega
theorem tb_len(l:List Tm):2*l.length≤tb l:=by
 induction l with
 | nil=>simp[tb]
 | cons t l ih=>
   simp only[tb,List.length_cons];have:=bz_pos t.2;omega
theorem tb_bd{k:Nat}:∀ {l:List Tm},(∀t∈l,Bd k t.2)→tb l≤l.length*(k+1)
 | [],_=>by simp[tb]
 | t::l,h=>by
   have h1:=tb_bd (l:=l) fun u hu=>h u (by simp[hu]);have h2:=bz_le (h t (by simp));simp only[tb,List.length_cons,Nat.succ_mul];omega
theorem coef_tb(l:List Tm)(v:Int):Bd (tb l+1) (coef l v):=by
 induction l with
 | nil=>exact Bd.zero (by simp[tb])
 | cons t l ih=>
   rw[coef];split
   ·refine((bd_bz t.2).add ih).mono ?_;simp only[tb];omega
   ·rw[Rat.zero_add];exact ih.mono (by simp only[tb];omega)
end Go.Proofs.YtbbpecfapohlaaaGreatDoor
