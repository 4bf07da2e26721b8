import Derived.Lib.RowBridge
import Derived.Test.YtbbpecfapohlaaaGreatDoorZ0
import Derived.Test.YtbbpecfapohlaaaGreatDoorBitsW
import Derived.Test.YtbbpecfapohlaaaGreatDoorTy
set_option maxRecDepth 100000
set_option maxHeartbeats 4000000
namespace Go.Proofs.YtbbpecfapohlaaaGreatDoor
open Go.RowKit
def szI(l:Int):Int:=if l<0 then-l else l
def ahI(a b:Int):Bool:=decide (szI a<szI b∨(szI a=szI b∧b<a))
def ordI(a b:Int):Int:=if szI a=szI b then(if b<a then-1 else if a<b then 1 else 0)else szI a-szI b
def okLi(l:Int):Prop:=l≠0∧ -9223372036854775808<l∧l<9223372036854775808
instance (l:Int):Decidable (okLi l):=by unfold okLi;infer_instance
def inR(l:Int):Prop:= -9223372036854775808≤l∧l<9223372036854775808
theorem okLi.inR{l:Int}(h:okLi l):inR l:=⟨by have:=h.2.1;omega,h.2.2⟩
theorem szI_ok{l:Int}(h:okLi l):1≤szI l∧szI l<9223372036854775808:=by
 obtain⟨h1,h2,h3⟩:=h;unfold szI;split<;>omega
theorem ordI_neg(a b:Int):decide (ordI a b<0)=ahI a b:=by
 unfold ordI ahI;by_cases h:szI a=szI b
 ·rw[if_pos h];by_cases h1:b<a
  ·simp[h,h1]
  ·by_cases h2:a<b<;>simp[h,h1,h2]
 ·rw[if_neg h];simp only[h,false_and,or_false,decide_eq_decide];omega
theorem ahI_irr(a:Int):ahI a a=false:=by unfold ahI;simp
theorem ahI_tr{a b c:Int}(h:ahI a b=true)(k:ahI b c=true):ahI a c=true:=by
 unfold ahI at*;simp only[decide_eq_true_eq]at*;omega
theorem ahI_tot{a b:Int}(h:a≠b):ahI a b=true∨ahI b a=true:=by
 unfold ahI szI;simp only[decide_eq_true_eq];split<;>split<;>omega
theorem ahI_no{a b:Int}(h:ahI a b=false):a=b∨ahI b a=true:=by
 by_cases e:a=b
 ·exact .inl e
 ·rcases ahI_tot e with h1 | h1
  ·rw[h]at h1;cases h1
  ·exact .inr h1
def nxI(l:Int):List Int→List Int
 | []=>[]
 | m::r=>if ahI l m=true then l::m::r else m::nxI l r
def inI(l:Int):List Int→List Int
 | []=>[l]
 | m::r=>if ahI l m=true then l::m::r else m::inI l r
theorem nxI_snoc(l m:Int):∀ p:List Int,nxI l (p++[m])=if p.any (ahI l)=false∧ahI l m=true then nxI l p++[l]++[m]else nxI l p++[m]
 | []=>by
   by_cases h:ahI l m=true<;>simp[nxI,h]
 | x::p=>by
   by_cases h:ahI l x=true
   ·simp[nxI,h]
   ·have ih:=nxI_snoc l m p;rw[List.cons_append,nxI,if_neg h,ih,nxI,if_neg h];have h':ahI l x=false:=by simpa using h
    simp only[List.any_cons,h',Bool.false_or];split<;>rfl
theorem inI_eq(l:Int):∀ p:List Int,inI l p=if p.any (ahI l)=true then nxI l p else nxI l p++[l]
 | []=>by simp[inI,nxI]
 | x::p=>by
   by_cases h:ahI l x=true
   ·simp[inI,nxI,h]
   ·have h':ahI l x=false:=by simpa using h
    rw[inI,if_neg h,inI_eq l p,nxI,if_neg h,List.any_cons,h',Bool.false_or];split<;>rfl
def canI(c:List Int):List Int:=c.foldl (fun o l=>if l∈o then o else inI l o) []
def SrtI(o:List Int):Prop:=o.Pairwise fun a b=>ahI a b=true
theorem inI_mem(l x:Int):∀ o:List Int,x∈inI l o↔x=l∨x∈o
 | []=>by simp[inI]
 | m::r=>by
   rw[inI];split
   ·simp
   ·rw[List.mem_cons,inI_mem l x r,List.mem_cons];constructor
    ·rintro (h | h | h)
     ·exact .inr (.inl h)
     ·exact .inl h
     ·exact .inr (.inr h)
    ·rintro (h | h | h)
     ·exact .inr (.inl h)
     ·exact .inl h
     ·exact .inr (.inr h)
theorem inI_srt{l:Int}:∀ {o:List Int},SrtI o→l∉o→SrtI (inI l o)
 | [],_,_=>by simp[inI,SrtI]
 | m::r,h,hn=>by
   obtain⟨h1,h2⟩:=List.pairwise_cons.1 h;rw[inI];split
   ·rename_i hl;refine List.pairwise_cons.2 ⟨fun x hx=>?_,h⟩;rcases List.mem_cons.1 hx with rfl | hx
    ·exact hl
    ·exact ahI_tr hl (h1 x hx)
   ·rename_i hl;refine List.pairwise_cons.2 ⟨fun x hx=>?_,inI_srt h2 fun hm=>hn (List.mem_cons_of_mem _ hm)⟩;rcases (inI_mem l x r).1 hx with rfl | hx
    ·rcases ahI_tot (a:=m) (b:=x) (fun e=>hn (by rw[e];exact List.mem_cons_self ..))with h3 | h3
     ·exact h3
     ·exact absurd h3 hl
    ·exact h1 x hx
theorem canI_fold:∀ (c o:List Int),SrtI o→SrtI (c.foldl (fun o l=>if l∈o then o else inI l o) o)∧∀ x,x∈c.foldl (fun o l=>if l∈o then o else inI l o) o↔x∈o∨x∈c
 | [],o,h=>⟨h,fun x=>by simp⟩
 | l::c,o,h=>by
   rw[List.foldl_cons];by_cases hl:l∈o
   ·rw[if_pos hl];obtain⟨h1,h2⟩:=canI_fold c o h;refine⟨h1,fun x=>(h2 x).trans ?_⟩;rw[List.mem_cons];constructor
    ·rintro (a | a)
     ·exact .inl a
     ·exact .inr (.inr a)
    ·rintro (a | rfl | a)
     ·exact .inl a
     ·exact .inl hl
     ·exact .inr a
   ·rw[if_neg hl];obtain⟨h1,h2⟩:=canI_fold c _ (inI_srt h hl);refine⟨h1,fun x=>(h2 x).trans ?_⟩;rw[List.mem_cons,inI_mem];constructor
    ·rintro ((a | a) | a)
     ·exact .inr (.inl a)
     ·exact .inl a
     ·exact .inr (.inr a)
    ·rintro (a | a | a)
     ·exact .inl (.inr a)
     ·exact .inl (.inl a)
     ·exact .inr a
theorem canI_srt(c:List Int):SrtI (canI c):=(canI_fold c [] List.Pairwise.nil).1
theorem canI_mem(c:List Int)(x:Int):x∈canI c↔x∈c:=by
 have:=(canI_fold c [] List.Pairwise.nil).2 x;simp only[List.not_mem_nil,false_or]at this;exact this
theorem srt_uniq:∀ {a b:List Int},SrtI a→SrtI b→(∀x,x∈a↔x∈b)→a=b
 | [],[],_,_,_=>rfl
 | [],y::b,_,_,h=>absurd ((h y).2 (List.mem_cons_self ..)) (by simp)
 | x::a,[],_,_,h=>absurd ((h x).1 (List.mem_cons_self ..)) (by simp)
 | x::a,y::b,ha,hb,h=>by
   obtain⟨a1,a2⟩:=List.pairwise_cons.1 ha;obtain⟨b1,b2⟩:=List.pairwise_cons.1 hb;have e:x=y:=by
    rcases List.mem_cons.1 ((h x).1 (List.mem_cons_self ..))with h1 | h1
    ·exact h1
    rcases List.mem_cons.1 ((h y).2 (List.mem_cons_self ..))with h2 | h2
    ·exact h2.symm
    have:=ahI_tr (a1 y h2) (b1 x h1);rw[ahI_irr]at this;cases this
   subst e;have hn:∀ {l:List Int},(∀z∈l,ahI x z=true)→x∉l:=fun hl hm=>by
    have:=hl x hm;rw[ahI_irr]at this;cases this
   rw[srt_uniq a2 b2 fun z=>⟨fun hz=>?_,fun hz=>?_⟩]
   ·rcases List.mem_cons.1 ((h z).1 (List.mem_cons_of_mem _ hz))with rfl | h1
    ·exact absurd hz (hn a1)
    ·exact h1
   ·rcases List.mem_cons.1 ((h z).2 (List.mem_cons_of_mem _ hz))with rfl | h1
    ·exact absurd hz (hn b1)
    ·exact h1
theorem canI_id{c:List Int}(h:SrtI c):canI c=c:=srt_uniq (canI_srt c) h (canI_mem c)
theorem canI_can(c:List Int):canI (canI c)=canI c:=canI_id (canI_srt c)
theorem cmp_srt(d:Array Int)(hs:∀ i j,i<j→j<d.size→ahI d[j]! d[i]! =false):∀ m,m≤d.size→SrtI (Lib.compactUpTo d m)∧∀ x,x∈Lib.compactUpTo d m↔∃ j,j<m∧d[j]! =x
 | 0,_=>⟨by unfold Lib.compactUpTo;exact List.Pairwise.nil,fun x=>by simp[Lib.compactUpTo]⟩
 | m+1,hm=>by
   obtain⟨h1,h2⟩:=cmp_srt d hs m (by omega);rw[Lib.compactUpTo_succ];by_cases hk:Lib.keeps d m=true
   ·rw[if_pos hk];refine⟨List.pairwise_append.2 ⟨h1,List.pairwise_singleton _ _,fun a ha b hb=>?_⟩,fun x=>?_⟩
    ·obtain rfl:=List.mem_singleton.1 hb;obtain⟨j,hj,rfl⟩:=(h2 a).1 ha;rcases ahI_no (hs j m hj (by omega))with e | e
     ·exfalso;have hk:m=0∨d[m]! ≠d[m-1]! :=by simpa[Lib.keeps] using hk
      rcases hk with hk | hk
      ·omega
      ·by_cases hj1:j=m-1
       ·exact hk (by rw[e,hj1])
       ·rcases ahI_no (hs j (m-1) (by omega) (by omega))with e2 | e2
        ·exact hk (by rw[e,e2])
        ·have:=hs (m-1) m (by omega) (by omega);rw[e,e2]at this;cases this
     ·exact e
    ·rw[List.mem_append,h2,List.mem_singleton];constructor
     ·rintro (⟨j,h3,h4⟩ | h3)
      ·exact⟨j,by omega,h4⟩
      ·exact⟨m,by omega,h3.symm⟩
     ·rintro ⟨j,h3,h4⟩;by_cases e:j=m
      ·exact .inr (by rw[←h4,e])
      ·exact .inl ⟨j,by omega,h4⟩
   ·rw[if_neg hk,List.append_nil];refine⟨h1,fun x=>(h2 x).trans ⟨fun⟨j,h3,h4⟩=>⟨j,by omega,h4⟩,fun⟨j,h3,h4⟩=>?_⟩⟩;have hk:m≠0∧d[m]! =d[m-1]! :=by simpa[Lib.keeps] using hk
    by_cases e:j=m
    ·exact⟨m-1,by omega,by rw[←h4,e,hk.2]⟩
    ·exact⟨j,by omega,h4⟩
theorem compact_can(d c:List Int)(hs:∀ i j,i<j→j<d.length→ahI d.toArray[j]! d.toArray[i]! =false)(hm:∀ x,x∈d↔x∈c):Lib.compact d=canI c:=by
 obtain⟨h1,h2⟩:=cmp_srt d.toArray (by simpa using hs) d.length (by simp);refine srt_uniq h1 (canI_srt c) fun x=>?_;rw[canI_mem,←hm];refine(h2 x).trans ⟨fun⟨j,h3,h4⟩=>?_,fun h=>?_⟩
 ·rw[←h4];simp[h3]
 ·obtain⟨j,hj,rfl⟩:=List.getElem_of_mem h;exact⟨j,hj,by simp[hj]⟩
abbrev zI(n:Int):List D:=[.v (.int .i64 n)]
theorem zI_one{l:List Int}:∀ c∈l.map zI,c.length=1:=fun c hc=>by obtain⟨n,_,rfl⟩:=List.mem_map.1 hc;rfl
theorem own_ints{S:Nat→Prop}{w:World}{v:Value}{e:TypeId}{l:List Int}(h:RO S w (fun _=>v) [] 0 (.row 0 e 1 (l.map zI))):(v= .slice none 0 0∧l=[])∨∃ g cap cur,v= .slice (some ⟨g,0,none⟩) l.length cap∧w.heap[g]?=some (.cells cur e (0,0))∧l.length≤cap∧cap≤maxLen∧cur.size=cap∧cur.toList.take l.length=l.map (Value.int .i64):=by
 obtain⟨css,h1,h2,h3,h4⟩:=h;rw[List.length_map]at h1 h4;have hf:css.flatten=l.map (Value.int .i64):=by
  have hc:css=l.map fun n=>[Value.int .i64 n]:=by
   refine List.ext_getElem (by rw[List.length_map];exact h1) fun i hi hi2=>?_;rw[List.length_map]at hi2;have:=h2 i hi (by rw[List.length_map];exact hi2);rw[List.getElem_map]at this ⊢;obtain⟨g1,g2⟩:=this
   match hcs:css[i],g1,g2 with
   | [u],_,g2=>
     have:=g2 0 (by simp) (by simp[zI]);have this:RD S w u (.v (.int .i64 l[i])):=this;cases this;rfl
   | [],g1,_=>simp[zI]at g1
   | _::_::_,g1,_=>simp[zI]at g1
  rw[hc];clear hc h1 h2 h3 h4
  induction l with
  | nil=>rfl
  | cons x r ih=>simp[ih]
 rw[hf]at h4;rcases h4.2 with ⟨e1,e2⟩ | ⟨g,cap,cur,e1,_,e3,e4,e5,e6,e7⟩
 ·exact .inl ⟨e1,List.length_eq_zero_iff.1 e2⟩
 ·exact .inr ⟨g,cap,cur,e1,e3,e4,e5,by rw[e6,Nat.mul_one],by rw[Nat.mul_one]at e7;exact e7⟩
theorem own_of_ints{S:Nat→Prop}{w:World}{e:TypeId}{l:List Int}{g cap:Nat}{cur:Array Value}(h1:w.heap[g]?=some (.cells cur e (0,0)))(h2:l.length≤cap)(h3:cap≤maxLen)(h4:cur.size=cap)(h5:cur.toList.take l.length=l.map (Value.int .i64)):RO S w (fun _=> .slice (some ⟨g,0,none⟩) l.length cap) [] 0 (.row 0 e 1 (l.map zI)):=by
 refine⟨l.map fun n=>[Value.int .i64 n],by simp,fun i hi hi2=>?_,zI_one,?_⟩
 ·rw[List.getElem_map,List.getElem_map];exact RDs.cons (.v rfl) .nil
 ·have hf:(l.map fun n=>[Value.int .i64 n]).flatten=l.map (Value.int .i64):=by
   clear h2 h5
   induction l with
   | nil=>rfl
   | cons x r ih=>simp[ih]
  rw[hf,List.length_map];exact⟨by simp,.inr ⟨g,cap,cur,rfl,Nat.zero_le _,h1,h2,h3,by rw[h4,Nat.mul_one],by rw[Nat.mul_one];exact h5⟩⟩
abbrev LI:={l:Int // okLi l}
instance:Inhabited LI:=⟨⟨1,by decide⟩⟩
def enLI(x:LI):Value:= .int .i64 x.1
theorem li_of:∀ {c:List Int},(∀l∈c,okLi l)→∃ m:List LI,m.map Subtype.val=c
 | [],_=>⟨[],rfl⟩
 | x::r,h=>by
   obtain⟨m,hm⟩:=li_of (c:=r) fun l hl=>h l (by simp[hl]);exact⟨⟨x,h x (by simp)⟩::m,by rw[List.map_cons,hm]⟩
theorem heap_put{α:Type}[Inhabited α](enc:α→Value)(w:World)(g n:Nat)(d:Array α)(os:Array Obj){cur:Array Value}{e:TypeId}(h:w.heap[g]?=some (.cells cur e (0,0)))(hd:d.size≤cur.size):
  let w':=sortWorld enc w g 0 n d os
  w'.heap[g]?=some (.cells (Sort.putCells enc 0 d cur) e (0,0))∧(∀b,b<w.heap.size→b≠g→w'.heap[b]?=w.heap[b]?)∧w.heap.size≤w'.heap.size∧(Sort.putCells enc 0 d cur).size=cur.size∧(Sort.putCells enc 0 d cur).toList.take d.size=d.toList.map enc:=by
 have hg:=(Array.getElem?_eq_some_iff.1 h).1;have hh:(sortWorld enc w g 0 n d os).heap=(w.heap.modify g (Sort.onCells (Sort.putCells enc 0 d)))++os:=rfl;refine⟨?_,fun b hb hne=>?_,?_,?_,?_⟩
 ·rw[hh,Array.getElem?_append_left (by rw[Array.size_modify];exact hg),Array.getElem?_modify,if_pos rfl,h];rfl
 ·rw[hh,Array.getElem?_append_left (by rw[Array.size_modify];exact hb),Array.getElem?_modify,if_neg (Ne.symm hne)]
 ·rw[hh,Array.size_append,Array.size_modify];omega
 ·unfold Sort.putCells;simp
 ·refine List.ext_getElem (by simp[Sort.putCells];omega) fun i h1 h2=>?_;have h2':i<d.size:=by simpa using h2
  rw[List.getElem_take,Array.getElem_toList,List.getElem_map,Array.getElem_toList];unfold Sort.putCells;rw[Array.getElem_mapIdx,if_pos ⟨Nat.zero_le _,by omega⟩,Nat.sub_zero,getElem!_pos d i h2']
theorem holds_of{α:Type}[Inhabited α]{enc:α→Value}{w:World}{g:Nat}{d:Array α}{cur:Array Value}{e:TypeId}(h:w.heap[g]?=some (.cells cur e (0,0)))(ht:cur.toList.take d.size=d.toList.map enc):Sort.Holds enc w g 0 d:=by
 intro j hj;have hl:d.size≤cur.size:=by
  have:=congrArg List.length ht;simp at this;omega
 constructor
 ·unfold World.cell?;dsimp only;rw[h];dsimp only;rw[if_neg (by simp),Nat.zero_add];have e1:(cur.toList.take d.size)[j]?=(d.toList.map enc)[j]?:=by rw[ht]
  rw[List.getElem?_take_of_lt hj,List.getElem?_map]at e1;rw[Array.getElem?_toList,Array.getElem?_toList,Array.getElem?_eq_getElem hj]at e1;rw[e1,getElem!_pos d j hj];rfl
 ·unfold World.frozen?;dsimp only;rw[h];dsimp only;simp
def SortQ(c:List Int)(ys:List (List D)):Prop:=∃ d:List Int,ys=d.map zI∧d.length=c.length∧(∀x,x∈d↔x∈c)∧∀ i j,i<j→j<d.length→ahI d.toArray[j]! d.toArray[i]! =false
theorem swoI:Sort.SWO (ltOf fun x y:LI=>ordI x.1 y.1) where
 irrefl x:=by show decide (ordI x.1 x.1<0)=false;rw[ordI_neg];exact ahI_irr _
 trans x y z h1 h2:=by
  have h1:decide (ordI x.1 y.1<0)=true:=h1;have h2:decide (ordI y.1 z.1<0)=true:=h2;show decide (ordI x.1 z.1<0)=true;rw[ordI_neg]at*;exact ahI_tr h1 h2
 ntrans x y z h1 h2:=by
  have h1:decide (ordI x.1 y.1<0)=false:=h1;have h2:decide (ordI y.1 z.1<0)=false:=h2;show decide (ordI x.1 z.1<0)=false;rw[ordI_neg]at*;cases h:ahI x.1 z.1 with
  | false=>rfl
  | true=>
    rcases ahI_no h1 with e | e
    ·rw[e,h2]at h;cases h
    ·rw[ahI_tr e h]at h2;cases h2
theorem sortZ{g:FuncId}(eg:∀ args w,(callFunc g args).run Tryz.prog w= .ok (.enter g args) w)(hc:∀ (x y:LI) (W:World),Calls Tryz.prog g #[enLI x,enLI y] W fun e w'=>e= .returned (.int .i64 (ordI x.1 y.1))∧∃ q,w'=W.drewN q){c:List Int}(hok:∀ l∈c,okLi l)(hl:c.length≤1000000000):
  FnS Tryz.prog 173 3 1 (c.map zI) [.d (.v (.func (.func g) #[] #[]))] (SortQ c):=by
 refine⟨⟨_,Tryz.func173,by kernel_rfl,by kernel_rfl⟩,fun S w v vs hS hv hRO hvs=>?_⟩;obtain⟨u,rfl⟩:∃ u,vs=[u]:=List.length_eq_one_iff.1 hvs.1;have hu:RD S w u (.v (.func (.func g) #[] #[])):=hvs.2 0 (by simp) (by simp);cases hu;rcases own_ints hRO with ⟨rfl,rfl⟩ | ⟨gb,cap,cur,rfl,k1,k2,k3,k4,k5⟩
 ·have hcon:=AnyF.slices_SortFunc_none {Tryz.sortInt with } none 0 (.func (.func g) #[] #[]) w;refine Calls.mono hcon ?_;rintro e w' ⟨rfl,rfl⟩;exact⟨_,rfl,rfl,rfl,rfl,Nat.le_refl _,fun _ _ _=>rfl,[],⟨[],rfl,rfl,fun _=>Iff.rfl,fun i j h h2=>absurd h2 (by simp)⟩,hRO.row rfl fun b hb=>⟨⟨.inl hb,hS b hb⟩,by simp[blk]⟩⟩
 ·obtain⟨m,rfl⟩:=li_of hok;have hsz:m.toArray.size=(m.map Subtype.val).length:=by simp
  have hgb:=(Array.getElem?_eq_some_iff.1 k1).1;have hH:Sort.Holds enLI w gb 0 m.toArray:=holds_of k1 (by rw[hsz,k5];simp[enLI]);have hcon:=Any.slices_SortFunc Tryz.sortInt enLI (fun _=>rfl) (fun x y=>ordI x.1 y.1) swoI g #[] gb 0 cap m.toArray w eg (fun _ os dk _ x y=>(hc x y _).mono fun _ _ ⟨he,q,hq⟩=>⟨he,q,#[],by rw[hq,Sort.grow_empty]⟩) hH hgb (by rw[hsz];omega);rw[hsz]at hcon;refine Calls.mono hcon ?_;rintro e w' ⟨rfl,d',n,os,⟨p1,_,p3⟩,hs,rfl⟩;rw[hsz]at p1;obtain⟨q1,q2,q3,q4,q5⟩:=heap_put enLI w gb n d' os k1 (by rw[p1,k4];exact k2);have hlen:(d'.toList.map Subtype.val).length=(m.map Subtype.val).length:=by rw[List.length_map,Array.length_toList,p1]
  refine⟨_,rfl,rfl,rfl,rfl,q3,fun b hb hne=>q2 b hb fun e=>hne (by rw[e];rfl),(d'.toList.map Subtype.val).map zI,⟨_,rfl,hlen,fun x=>?_,fun i j hij hj=>?_⟩,?_⟩
  ·have hp:d'.toList.Perm m:=by
    have e1:d'.extract 0 (m.map Subtype.val).length=d':=by rw[←p1];simp
    have e2:m.toArray.extract 0 (m.map Subtype.val).length=m.toArray:=by rw[←hsz];simp
    rw[e1,e2]at p3;exact p3
   rw[List.mem_map,List.mem_map];exact⟨fun⟨a,h1,h2⟩=>⟨a,hp.mem_iff.1 h1,h2⟩,fun⟨a,h1,h2⟩=>⟨a,hp.mem_iff.2 h1,h2⟩⟩
  ·rw[hlen]at hj;have hj':j<d'.size:=by rw[p1];exact hj
   have:=hs i j (Nat.zero_le _) hij hj;rw[getElem!_pos d' j hj',getElem!_pos d' i (by omega)]at this;have this:decide (ordI d'[j].1 (d'[i]'(by omega)).1<0)=false:=this;rw[ordI_neg]at this;have e:∀ k (hk:k<d'.size),(d'.toList.map Subtype.val).toArray[k]! =d'[k].1:=fun k hk=>by
    rw[getElem!_pos _ k (by simpa using hk)];simp
   rw[e j hj',e i (by omega)];exact this
  ·have:=own_of_ints (S:=fun b=>((S b∨w.heap.size≤b)∧b<(sortWorld enLI w gb 0 n d' os).heap.size)∧blk (.slice (some ⟨gb,0,none⟩) (m.map Subtype.val).length cap)≠some b) (l:=d'.toList.map Subtype.val) (cap:=cap) q1 (by rw[hlen];exact k2) k3 (by rw[q4,k4]) (by
    rw[hlen,←p1,q5,List.map_map];rfl)
   rw[hlen]at this;exact this
theorem compZ(d:List Int)(hl:d.length≤1000000000):FnA Tryz.prog 176 3 1 (d.map zI) [] ((Lib.compact d).map zI):=by
 refine⟨⟨_,Tryz.func176,by kernel_rfl,by kernel_rfl⟩,fun S w v vs hS hv hRO hvs=>?_⟩;obtain rfl:vs=[]:=List.length_eq_zero_iff.1 hvs.1;rcases own_ints hRO with ⟨rfl,rfl⟩ | ⟨gb,cap,cur,rfl,k1,k2,k3,k4,k5⟩
 ·refine Calls.mono (AnyG.slices_Compact_int_empty Tryz.compInt none 0 w) ?_;rintro e w' ⟨rfl,rfl⟩;exact⟨_,rfl,rfl,rfl,rfl,Nat.le_refl _,fun _ _ _=>rfl,fun b hb=>by simp[blk]at hb,hRO.row rfl fun b hb=>⟨⟨.inl hb,hS b hb⟩,by simp[blk]⟩⟩
 ·have hH:Sort.Holds (Value.int .i64) w gb 0 d.toArray:=holds_of k1 (by simpa using k5);have hcl:=Lib.compact_length_le d;have hcon:=AnyG.slices_Compact_int Tryz.compInt gb 0 cap d w hH (by omega) k2;refine Calls.mono hcon ?_;rintro e w' ⟨rfl,q,rfl⟩;have hcs:(Lib.compact d++List.replicate (d.length-(Lib.compact d).length) 0).length=d.length:=by simp;omega
  generalize hD:Lib.compact d++List.replicate (d.length-(Lib.compact d).length) 0=D' at hcs ⊢;have hw:Sort.putRow (Value.int .i64) (Sort.ahead w q) gb 0 D'.toArray=sortWorld (Value.int .i64) w gb 0 q D'.toArray #[]:=by
   unfold sortWorld;rw[Sort.grow_empty]
  rw[hw];obtain⟨q1,q2,q3,q4,q5⟩:=heap_put (Value.int .i64) w gb q D'.toArray #[] k1 (by simp;omega);refine⟨_,rfl,rfl,rfl,rfl,q3,fun b hb hne=>q2 b hb fun e=>hne (by rw[e];rfl),fun b hb=>⟨.inl hb,by cases hb;exact Nat.lt_of_lt_of_le (Array.getElem?_eq_some_iff.1 k1).1 q3⟩,?_⟩;refine own_of_ints q1 (by omega) k3 (by rw[q4,k4]) ?_;have:=congrArg (List.take (Lib.compact d).length) q5;rw[List.take_take,List.size_toArray,hcs,Nat.min_eq_left hcl]at this;rw[this,←hD];simp
theorem size_calls(l:Int)(h:okLi l)(W:World):Calls Tryz.prog 171 #[.int .i64 l] W fun e w'=>e= .returned (.int .i64 (szI l))∧∃ q,w'=W.drewN q:=by
 have hs:=szI_ok h;obtain⟨h0,h1,h2⟩:=h;unfold szI at hs ⊢;by_cases hl:l<0
 ·rw[if_pos hl]at hs ⊢;have hm:max (-l) 0= -l:=by omega
  go_enter Tryz.func171,Tryz.ntmps171
  go_wp2
  go_ret
  exact⟨by first | rfl | simp[hm],0,rfl⟩
 ·rw[if_neg hl]at hs ⊢;have hm:max l 0=l:=by omega
  go_enter Tryz.func171,Tryz.ntmps171
  go_wp2
  go_ret
  exact⟨by first | rfl | simp[hm],0,rfl⟩
theorem order_calls(a b:Int)(ha:okLi a)(hb:okLi b)(W:World):Calls Tryz.prog 174 #[.int .i64 a,.int .i64 b] W fun e w'=>e= .returned (.int .i64 (ordI a b))∧∃ q,w'=W.drewN q:=by
 have hca:=fun W=>size_calls a ha W;have hcb:=fun W=>size_calls b hb W;have h1:=szI_ok ha;have h2:=szI_ok hb;obtain⟨a0,a1,a2⟩:=ha;obtain⟨b0,b1,b2⟩:=hb;unfold ordI;generalize szI a=x at hca h1 ⊢;generalize szI b=y at hcb h2 ⊢;by_cases hxy:x=y
 ·subst hxy;rw[if_pos rfl];by_cases hl:b<a
  ·rw[if_pos hl]
   go_enter Tryz.func174,Tryz.ntmps174
   go_wp2_with (go_at_call 171;first | (refine(hca _).mono ?_;rintro e w' ⟨rfl,q1,rfl⟩) | (refine(hcb _).mono ?_;rintro e w' ⟨rfl,q2,rfl⟩))
   go_ret
   exact⟨rfl,_,rfl⟩
  ·rw[if_neg hl];by_cases hm:a<b
   ·rw[if_pos hm]
    go_enter Tryz.func174,Tryz.ntmps174
    go_wp2_with (go_at_call 171;first | (refine(hca _).mono ?_;rintro e w' ⟨rfl,q1,rfl⟩) | (refine(hcb _).mono ?_;rintro e w' ⟨rfl,q2,rfl⟩))
    go_ret
    exact⟨rfl,_,rfl⟩
   ·rw[if_neg hm]
    go_enter Tryz.func174,Tryz.ntmps174
    go_wp2_with (go_at_call 171;first | (refine(hca _).mono ?_;rintro e w' ⟨rfl,q1,rfl⟩) | (refine(hcb _).mono ?_;rintro e w' ⟨rfl,q2,rfl⟩))
    go_ret
    exact⟨rfl,_,rfl⟩
 ·rw[if_neg hxy]
  go_enter Tryz.func174,Tryz.ntmps174
  go_wp2_with (go_at_call 171;first | (refine(hca _).mono ?_;rintro e w' ⟨rfl,q1,rfl⟩) | (refine(hcb _).mono ?_;rintro e w' ⟨rfl,q2,rfl⟩))
  go_ret
  exact⟨rfl,_,rfl⟩
end Go.Proofs.YtbbpecfapohlaaaGreatDoor
