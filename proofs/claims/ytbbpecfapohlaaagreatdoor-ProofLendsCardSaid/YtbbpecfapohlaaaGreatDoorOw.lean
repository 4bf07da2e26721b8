import Derived.Test.YtbbpecfapohlaaaGreatDoorK3
namespace Go.Proofs.YtbbpecfapohlaaaGreatDoor
open Go.RowKit
abbrev slv(b n c:Nat):Value:= .slice (some ⟨b,0,none⟩) n c
abbrev ptv(b o:Nat):Value:= .pointer (some ⟨b,o,none⟩)
def rowR(x:Value)(e:TypeId)(k:Nat)(xs:List (List D)):(Nat→Prop)→World→Prop:=fun S w=>
 ∃css:List (List Value),css.length=xs.length∧(∀i (h:i<css.length) (h':i<xs.length),RDs S w css[i] xs[i])∧(∀y∈xs,y.length=k)∧w.ownsRow 0 e k x xs.length css.flatten
theorem rowR_stable(x:Value)(e:TypeId)(k:Nat)(xs:List (List D)):RStable x (rowR x e k xs):=fun _ _ _ _ ⟨css,h1,h2,h3,h4⟩ hs hb=>⟨css,h1,fun i h h'=>(h2 i h h').keep hs,h3,ownsRow_ext h4 hb⟩
def rowO(x:Value)(e:TypeId)(k:Nat)(xs:List (List D)):AO:= .own x (rowR x e k xs)
section
variable {P:Program}{C:Cx}{o:Oper}{σ:AS}
theorem Inv.own'{β:Nat→Value}{a:Act}{w:World}(h:Inv C σ β a w)(id:Nat)(o0:AO)(hO:get? σ.objs id=some o0)(R:(Nat→Prop)→World→Prop)(hR:R (Dat C β σ.objs w) w)(hst:RStable (β id) R):Inv C ⟨σ.env,(id,.own (β id) R)::σ.objs⟩ β a w:=by
 have hg:∀ i o',get? ((id,AO.own (β id) R)::σ.objs) i=some o'→(i=id∧o'= .own (β id) R)∨(i≠id∧get? σ.objs i=some o'):=fun i o' hi=>by
  rw[get?_cons]at hi;by_cases e:id=i
  ·rw[if_pos e]at hi;injection hi with hi;exact .inl ⟨e.symm,hi.symm⟩
  ·rw[if_neg e]at hi;exact .inr ⟨Ne.symm e,hi⟩
 have hobj:∀ i o',get? ((id,AO.own (β id) R)::σ.objs) i=some o'→∃ o2,get? σ.objs i=some o2:=fun i o' hi=>by
  rcases hg i o' hi with ⟨e,_⟩ | ⟨_,h⟩
  ·subst e;exact⟨_,hO⟩
  ·exact⟨_,h⟩
 have hD:∀ c,Dat C β σ.objs w c→Dat C β ((id,.own (β id) R)::σ.objs) w c∧w.heap[c]?=w.heap[c]?:=fun c hc=>⟨⟨hc.1,hc.2.1,fun i o' hi=>by
  obtain⟨o2,h⟩:=hobj i o' hi;exact hc.2.2 i o2 h⟩,rfl⟩
 have hA:∀ {u:Value} {x:AV},RA (Dat C β σ.objs w) w β σ.objs u x→RA (Dat C β ((id,.own (β id) R)::σ.objs) w) w β ((id,.own (β id) R)::σ.objs) u x:=fun h=>
  h.keep hD (fun i T' cs' hi=>by
   rcases hg i _ hi with ⟨_,h2⟩ | ⟨_,h2⟩
   ·cases h2
   ·exact⟨⟨T',cs',h2⟩,rfl⟩) (fun i g e k xs hi=>by
   rcases hg i _ hi with ⟨_,h2⟩ | ⟨_,h2⟩
   ·cases h2
   ·exact⟨g,e,k,xs,h2,Nat.le_refl _,fun _=>⟨rfl,rfl⟩⟩)
 refine⟨h.defs,h.nt,h.os,h.tape,h.output,h.size,h.fr,fun t' v' ht'=>?_,fun i o' hid=>?_,fun i j oi oj c q1 q2 q3 q4=>?_,fun i oi c q1 q2=>?_,fun i x o' q1 q2 q3=>?_⟩
 ·obtain⟨u',p1,p2⟩:=h.env t' v' ht';exact⟨u',p1,hA p2⟩
 ·rcases hg i o' hid with ⟨e,e2⟩ | ⟨_,hid⟩
  ·subst e e2;exact⟨rfl,hst _ _ _ _ hR hD fun _ _=>rfl,hst⟩
  ·have h1:=h.obj i o' hid;cases o' with
   | box T2 cs2=>
     obtain⟨b2,us2,q1,q2,q3,q4,q5⟩:=h1;exact⟨b2,us2,q1,q2,q3,q4,fun j hj hj'=>hA (q5 j hj hj')⟩
   | row g e2 k xs=>
     obtain⟨css,q1,q2,q3,q4⟩:=h1;exact⟨css,q1,fun j hj hj'=>(q2 j hj hj').mono fun c hc=>(hD c hc).1,q3,q4⟩
   | dead=>trivial
   | own x R=>exact⟨h1.1,h1.2.2 _ _ _ _ h1.2.1 hD fun _ _=>rfl,h1.2.2⟩
 ·obtain⟨o2,p1⟩:=hobj i oi q1;obtain⟨o3,p2⟩:=hobj j oj q2;exact h.dis i j o2 o3 c p1 p2 q3 q4
 ·obtain⟨o2,p1⟩:=hobj i oi q1;exact h.own i o2 c p1 q2
 ·rcases hg _ o' q2 with ⟨_,e2⟩ | ⟨_,q2⟩
  ·subst e2;cases q3
  ·exact h.pin i x o' q1 q2 q3
end
section
variable {P:Program}{C:Cx}{o:Oper}{σ:AS}
theorem RDs.put{S:Nat→Prop}{w:World}{us:List Value}{cs:List D}{j:Nat}{x:Value}{d:D}(h:RDs S w us cs)(hj:cs[j]?=some (.v x))(hd:RD S w x d):RDs S w us (cs.set j d):=by
 refine⟨by simpa using h.1,fun i h1 h2=>?_⟩;obtain⟨hlt,he⟩:=List.getElem?_eq_some_iff.1 hj;by_cases e:j=i
 ·subst e;simp only[List.getElem_set_self];have h3:=h.2 j h1 hlt;rw[he]at h3;have h4:us[j]=x:=by
   generalize us[j]=u at h3;cases h3;rfl
  rw[h4];exact hd
 ·rw[List.getElem_set_ne e];exact h.2 i h1 (by simpa using h2)
end
abbrev Rel:=(Nat→Prop)→World→Prop
structure OwnsL(S:Nat→Prop)(w:World)(l:List (Value×Rel)):Prop where
 rel:∀ i (h:i<l.length),l[i].2 S w
 st:∀ i (h:i<l.length),RStable l[i].1 l[i].2
 here:∀ i (h:i<l.length) b,blk l[i].1=some b→b<w.heap.size∧¬ S b
 dis:∀ i j (h:i<l.length) (h':j<l.length) b,blk l[i].1=some b→blk l[j].1=some b→i=j
def XO(S:Nat→Prop)(w w':World)(pre post:List (Value×Rel)):Nat→Prop:=fun b=>((S b∨w.heap.size≤b∨∃ x∈pre,blk x.1=some b)∧b<w'.heap.size)∧∀ x∈post,blk x.1≠some b
def FrO(xs:List Value)(w w':World):Prop:=w'.os=w.os∧w'.tape=w.tape∧w'.output=w.output∧w.heap.size≤w'.heap.size∧∀ b,b<w.heap.size→(∀x∈xs,blk x≠some b)→w'.heap[b]?=w.heap[b]?
structure FnO(P:Program)(f:FuncId)(K:World→Prop)(pre:List (Value×Rel))(args:List DV)(Post:List (Value×Rel)→List DV→Prop):Prop where
 body:∃ fn,P.funcs[f]?=some fn∧fn.body.isNone=false∧(fn.name== "runtime.NumGoroutine")=false
 run:∀ (S:Nat→Prop) (w:World) (vs:List Value),(∀w',FrO (pre.map (·.1)) w w'→K w')→(∀b,S b→b<w.heap.size)→OwnsL S w pre→RVs S w vs args→
  Calls P f vs.toArray w fun ev w'=>∃ post res u,Post post res∧post.length=pre.length∧ev= .returned u∧w'.os=w.os∧w'.tape=w.tape∧w'.output=w.output∧w.heap.size≤w'.heap.size∧
   (∀b,b<w.heap.size→(∀x∈pre,blk x.1≠some b)→w'.heap[b]?=w.heap[b]?)∧(∀x∈post,∀b,blk x.1=some b→w.heap.size≤b∨∃ y∈pre,blk y.1=some b)∧
   OwnsL (XO S w w' pre post) w' post∧RA (XO S w w' pre post) w' (fun _=>undef) [] u (resAV res)
def ownsAt:List Nat→List (Value×Rel)→List (Nat×AO)
 | i::is,x::xs=>(i,.own x.1 x.2)::ownsAt is xs
 | _,_=>[]
theorem ownsAt_get:∀ {is:List Nat} {xs:List (Value×Rel)} {O:List (Nat×AO)} {i:Nat} {ob:AO},is.length=xs.length→is.Nodup→get? (ownsAt is xs++O) i=some ob→(∃j,∃h:j<xs.length,∃h':j<is.length,is[j]=i∧ob= .own xs[j].1 xs[j].2)∨((∀j (h:j<is.length),is[j]≠i)∧get? O i=some ob)
 | [],[],O,i,ob,_,_,h=> .inr ⟨fun j h=>absurd h (by simp),h⟩
 | k::is,x::xs,O,i,ob,hl,hn,h=>by
   simp only[ownsAt,List.cons_append]at h;rw[get?_cons]at h;by_cases e:k=i
   ·rw[if_pos e]at h;injection h with h;exact .inl ⟨0,by simp,by simp,e,h.symm⟩
   ·rw[if_neg e]at h;rcases ownsAt_get (by simpa using hl) (List.nodup_cons.1 hn).2 h with ⟨j,h1,h2,h3,h4⟩ | ⟨h1,h2⟩
    ·exact .inl ⟨j+1,by simpa using h1,by simpa using h2,by simpa using h3,by simpa using h4⟩
    ·refine .inr ⟨fun j hj=>?_,h2⟩;cases j with
     | zero=>exact e
     | succ j=>simpa using h1 j (by simpa using hj)
 | [],_::_,_,_,_,hl,_,_=>by simp at hl
 | _::_,[],_,_,_,hl,_,_=>by simp at hl
def bsets(β:Nat→Value):List Nat→List (Value×Rel)→Nat→Value
 | i::is,x::xs=>fun n=>if n=i then x.1 else bsets β is xs n
 | _,_=>β
theorem bsets_at{β:Nat→Value}:∀ {is:List Nat} {xs:List (Value×Rel)} {j:Nat} (h:j<xs.length) (h':j<is.length),is.Nodup→bsets β is xs is[j]=xs[j].1
 | k::is,x::xs,0,_,_,_=>by simp[bsets]
 | k::is,x::xs,j+1,h,h',hn=>by
   simp only[bsets,List.getElem_cons_succ];rw[if_neg]
   ·exact bsets_at (by simpa using h) (by simpa using h') (List.nodup_cons.1 hn).2
   ·intro e;exact(List.nodup_cons.1 hn).1 (by rw[←e];exact List.getElem_mem _)
 | [],_,_,_,h',_=>by simp at h'
 | _::_,[],_,h,_,_=>by simp at h
section
variable {P:Program}{C:Cx}{o:Oper}{σ:AS}
def RetO(P:Program)(nt:Nat)(rs:List ResultVar)(n:Nat)(Post:List (Value×Rel)→List DV→Prop):Exit→AS→Prop
 | .ret,σ=>∃ post res,Post post res∧post.length=n∧ressX P σ rs res∧∀ j (h:j<post.length),get? σ.objs (nt+100+j)=some (.own post[j].1 post[j].2)
 | .normal,σ=>∃ post res,Post post res∧post.length=n∧ressX P σ rs res∧∀ j (h:j<post.length),get? σ.objs (nt+100+j)=some (.own post[j].1 post[j].2)
 | _,_=>False
def upFrom(i:Nat):Nat→List Nat
 | 0=>[]
 | n+1=>i::upFrom (i+1) n
theorem upFrom_len:∀ n i,(upFrom i n).length=n
 | 0,_=>rfl
 | n+1,i=>by simp[upFrom,upFrom_len n]
theorem upFrom_get:∀ n i j (h:j<(upFrom i n).length),(upFrom i n)[j]=i+j
 | 0,_,j,h=>by simp[upFrom]at h
 | n+1,i,0,_=>by simp[upFrom]
 | n+1,i,j+1,h=>by
   simp only[upFrom,List.getElem_cons_succ];rw[upFrom_get n (i+1) j (by simpa[upFrom] using h)];omega
theorem upFrom_mem:∀ n i x,x∈upFrom i n→i≤x
 | 0,_,_,h=>by simp[upFrom]at h
 | n+1,i,x,h=>by
   rcases List.mem_cons.1 h with h | h
   ·omega
   ·have:=upFrom_mem n (i+1) x h;omega
theorem upFrom_nodup:∀ n i,(upFrom i n).Nodup
 | 0,_=>List.nodup_nil
 | n+1,i=>List.nodup_cons.2 ⟨fun h=>by have:=upFrom_mem n (i+1) i h;omega,upFrom_nodup n (i+1)⟩
theorem FnO.of{f:FuncId}{fn:Func}{c:Code}{K:World→Prop}{pre:List (Value×Rel)}{args:List DV}{Post:List (Value×Rel)→List DV→Prop}{nt:Nat}{rs:List ResultVar}(hf:P.funcs[f]?=some fn)(hb:fn.body=some c)(hname:(fn.name== "runtime.NumGoroutine")=false)(hntm:fn.ntmps=nt)(hrs:fn.results=rs.toArray)(hnt:Nat.ble args.length nt=true)(hpl:Nat.ble pre.length 100=true)
  (h:∀ w0 S0 vs,(∀b,S0 b→b<w0.heap.size∧∀ x∈pre,blk x.1≠some b)→RVs S0 w0 vs args→(∀w',FrO (pre.map (·.1)) w0 w'→K w')→∃ E,(∀t v,get? E t=some v→get? (entry 0 args) t=some v∨∃ u,vs[t]?=some u∧v= .d (.v u)∧u.oneCell'=true)∧AC P ⟨w0,S0,pre.map (·.1),nt⟩ c (RetO P nt rs pre.length Post) ⟨E,ownsAt (upFrom (nt+100) pre.length) pre⟩):FnO P f K pre args Post:=by
 subst hntm;rw[Nat.ble_eq]at hnt hpl;have hrs':fn.results.toList=rs:=by rw[hrs]
 refine⟨⟨fn,hf,by rw[hb];rfl,hname⟩,fun S w vs hKw hS hO hvs=>?_⟩;refine calls_of_wp hf hb ?_
 let C:Cx:=⟨w,S,pre.map (·.1),fn.ntmps⟩
 let β:Nat→Value:=bsets (fun _=>undef) (upFrom (fn.ntmps+100) pre.length) pre
 have hM:∀ b,Cx.M C b↔∃ x∈pre,blk x.1=some b:=fun b=>⟨fun⟨x,h1,h2⟩=>by
  obtain⟨y,hy,rfl⟩:=List.mem_map.1 h1;exact⟨y,hy,h2⟩,fun⟨y,hy,h2⟩=>⟨y.1,List.mem_map.2 ⟨y,hy,rfl⟩,h2⟩⟩
 have hnd:=upFrom_nodup pre.length (fn.ntmps+100);have hul:=upFrom_len pre.length (fn.ntmps+100);have hget:∀ i ob,get? (ownsAt (upFrom (fn.ntmps+100) pre.length) pre) i=some ob→∃ j,∃h1:j<pre.length,i=fn.ntmps+100+j∧ob= .own pre[j].1 pre[j].2∧β i=pre[j].1:=fun i ob hi=>by
  have hi':get? (ownsAt (upFrom (fn.ntmps+100) pre.length) pre++[]) i=some ob:=by rw[List.append_nil];exact hi
  rcases ownsAt_get hul hnd hi' with ⟨j,h1,h2,h3,h4⟩ | ⟨_,h2⟩
  ·refine⟨j,h1,by rw[←h3,upFrom_get],h4,?_⟩;rw[←h3];exact bsets_at h1 h2 hnd
  ·simp[get?]at h2
 have hdat:∀ b,S b→Dat C β (ownsAt (upFrom (fn.ntmps+100) pre.length) pre) w b:=fun b hb=>⟨.inl hb,hS b hb,fun i ob hi e=>by
  obtain⟨j,h1,_,_,h4⟩:=hget i ob hi;rw[h4]at e;exact(hO.here j h1 b e).2 hb⟩
 obtain⟨E,hE,hac⟩:=h w S vs (fun b hb=>⟨hS b hb,fun x hx e=>by
  obtain⟨j,hj,rfl⟩:=List.getElem_of_mem hx;exact(hO.here j hj b e).2 hb⟩) hvs hKw
 have hst:St C ⟨E,ownsAt (upFrom (fn.ntmps+100) pre.length) pre⟩ {tmps:=vs.toArray++Array.replicate (fn.ntmps-vs.toArray.size) undef,defers:=[] } w:=by
  refine⟨β,rfl,?_,rfl,rfl,rfl,Nat.le_refl _,fun _ _ _=>rfl,fun t v ht=>?_,fun i ob hi=>?_,fun i j oi oj b q1 q2 q3 q4=>?_,fun i oi b q1 q2=>?_,fun i x ob q1 q2 _=>?_⟩
  ·simp only[Array.size_append,List.size_toArray,Array.size_replicate];rw[hvs.1];show args.length+(fn.ntmps-args.length)=fn.ntmps;omega
  ·rcases hE t v ht with ht | ⟨u,h1,rfl,h2⟩
   rotate_left
   ·have hj:t<vs.length:=(List.getElem?_eq_some_iff.1 h1).1;exact⟨u,by rw[Array.getElem?_append_left (by simpa using hj)];simpa using h1,.v h2⟩
   obtain⟨j,h1,h2,h3⟩:=entry_get args 0 t v ht;have hj:j<vs.length:=by rw[hvs.1];exact h2
   have ht':t=j:=by omega
   subst ht';refine⟨vs[t],?_,?_⟩
   ·rw[Array.getElem?_append_left (by simpa using hj)];simp[hj]
   ·have:=(hvs.2 t hj h2).keep (w':=w) fun b hb=>⟨hdat b hb,rfl⟩
    rw[←h3];cases e:args[t]with
    | d c=>rw[e]at this;exact this
    | g cs=>rw[e]at this;exact this
  ·obtain⟨j,h1,_,rfl,h4⟩:=hget i ob hi;exact⟨h4,hO.st j h1 _ _ _ _ (hO.rel j h1) (fun b hb=>⟨hdat b hb,rfl⟩) fun _ _=>rfl,hO.st j h1⟩
  ·obtain⟨j1,h1,h2,_,h4⟩:=hget i oi q1;obtain⟨j2,g1,g2,_,g4⟩:=hget j oj q2;rw[h4]at q3;rw[g4]at q4;have:=hO.dis j1 j2 h1 g1 b q3 q4;omega
  ·obtain⟨j1,h1,h2,_,h4⟩:=hget i oi q1;rw[h4]at q2;exact⟨.inl ((hM b).2 ⟨_,List.getElem_mem h1,q2⟩),(hO.here j1 h1 b q2).1⟩
  ·obtain⟨j1,h1,h2,_,_⟩:=hget _ ob q2;have h5:i<pre.length:=by
    have:=(List.getElem?_eq_some_iff.1 q1).1;simpa[C] using this
   have h2:fn.ntmps+i=fn.ntmps+100+j1:=h2;omega
 refine Code.wp_mono ?_ (hac _ w hst);rintro ee a' w' ⟨σ,h1,β',hi⟩;have hfin:(∃post res,Post post res∧post.length=pre.length∧ressX P σ rs res∧∀ j (h:j<post.length),get? σ.objs (fn.ntmps+100+j)=some (.own post[j].1 post[j].2))→a'.defers=[]∧∃ v1,(results fn a'.tmps).run P w'= .ok v1 w'∧∃ post res u,Post post res∧post.length=pre.length∧Ending.returned v1= .returned u∧w'.os=w.os∧w'.tape=w.tape∧w'.output=w.output∧w.heap.size≤w'.heap.size∧
   (∀b,b<w.heap.size→(∀x∈pre,blk x.1≠some b)→w'.heap[b]?=w.heap[b]?)∧(∀x∈post,∀b,blk x.1=some b→w.heap.size≤b∨∃ y∈pre,blk y.1=some b)∧
   OwnsL (XO S w w' pre post) w' post∧RA (XO S w w' pre post) w' (fun _=>undef) [] u (resAV res):=fun⟨post,res,p1,p2,p3,p4⟩=>by
  obtain⟨v1,q1,q2⟩:=ressX.end hi (hrs'▸p3:ressX P σ fn.results.toList res);have hb':∀ j (h:j<post.length),β' (fn.ntmps+100+j)=post[j].1:=fun j h=>(hi.obj _ _ (p4 j h)).1;have hsub:∀ b,Dat C β' σ.objs w' b→XO S w w' pre post b:=fun b hb=>by
   refine⟨⟨?_,hb.2.1⟩,fun x hx e=>?_⟩
   ·rcases hb.1 with h | h | h
    ·exact .inl h
    ·exact .inr (.inl h)
    ·exact .inr (.inr ((hM b).1 h))
   ·obtain⟨j,hj,rfl⟩:=List.getElem_of_mem hx;exact hb.2.2 _ _ (p4 j hj) (by rw[hb' j hj];exact e)
  refine⟨hi.defs,v1,q1,post,res,v1,p1,p2,rfl,hi.os,hi.tape,hi.output,hi.size,fun b hb hne=>hi.fr b hb fun hm=>?_,fun x hx b e=>?_,⟨fun j hj=>?_,fun j hj=>(hi.obj _ _ (p4 j hj)).2.2,fun j hj b e=>⟨?_,fun hx=>hx.2 _ (List.getElem_mem hj) e⟩,fun i j hi' hj b e1 e2=>?_⟩,RA.same (w':=w') q2 fun b hb=>⟨hsub b hb,rfl⟩⟩
  ·obtain⟨x,hx,e⟩:=(hM b).1 hm;exact hne x hx e
  ·obtain⟨j,hj,rfl⟩:=List.getElem_of_mem hx;rcases (hi.own _ _ b (p4 j hj) (by rw[hb' j hj];exact e)).1 with h | h
   ·exact .inr ((hM b).1 h)
   ·exact .inl h
  ·exact(hi.obj _ _ (p4 j hj)).2.2 _ _ _ _ (hi.obj _ _ (p4 j hj)).2.1 (fun b hb=>⟨hsub b hb,rfl⟩) fun _ _=>rfl
  ·exact(hi.own _ _ b (p4 j hj) (by rw[hb' j hj];exact e)).2
  ·have:=hi.dis _ _ _ _ b (p4 i hi') (p4 j hj) (by rw[hb' i hi'];exact e1) (by rw[hb' j hj];exact e2);omega
 cases ee with
 | ret=>exact hfin h1
 | normal=>exact hfin h1
 | _=>exact h1.elim
end
def iterR(b:Nat)(s:ByteArray)(pos:Nat):Rel:=fun _ w=>w.heap[b]?=some (.stringIter s pos)
theorem iterR_stable(b:Nat)(s:ByteArray)(pos:Nat):RStable (ptv b 0) (iterR b s pos):=fun _ _ _ _ h _ hb=>(hb b rfl).trans h
def iterO(b:Nat)(s:ByteArray)(pos:Nat):AO:= .own (ptv b 0) (iterR b s pos)
section
variable {P:Program}{C:Cx}{o:Oper}{σ:AS}
theorem Do.next{x:Operand}{id b pos:Nat}{s:ByteArray}(ho:o.op= .next x true)(hx:ev σ x= .d (.v (ptv b 0)))(hO:get? σ.objs id=some (iterO b s pos))(hp:pos<s.size):
  Do P C o σ (.t [.d (.v (.bool true)),.d (.v (.int .i64 (pos:Int))),.d (.v (.int .i32 ((Utf8.decode s pos).1:Int)))]) ⟨[id],[],[(id,iterO b s (pos+(Utf8.decode s pos).2))],none⟩:=by
 intro σ' hl hdst a w K Q' ⟨β,hi⟩ hK;have h1:=hl.ra hi (x:=x) (by rw[ho];simp[Op.operands]);rw[hx]at h1;have hO':get? σ'.objs id=some (iterO b s pos):=by rw[hl.rd id (by simp)];exact hO
 obtain⟨hb,hh,_⟩:=hi.obj id _ hO';have hh:w.heap[b]?=some (.stringIter s pos):=hh;have hlt:b<w.heap.size:=by
  rcases Nat.lt_or_ge b w.heap.size with h | h
  ·exact h
  ·rw[Array.getElem?_eq_none h]at hh;cases hh
 have hr:(execOp a.eval o).run P w= .ok (.value (.tuple #[.bool true,.int .i64 (pos:Int),.int .i32 ((Utf8.decode s pos).1:Int)])) {w with heap:=w.heap.setIfInBounds b (.stringIter s (pos+(Utf8.decode s pos).2)) }:=by
  unfold execOp;rw[ho];simp[RA.val h1,Instr.next,getObj,setObj,Sem.run,hh,hp,goInt,Result.andThen]
 unfold Oper.wp;rw[hr];refine hK _ _ ⟨bset β id (ptv b 0),?_⟩;have:=(hi.upd (w':={w with heap:=w.heap.setIfInBounds b (.stringIter s (pos+(Utf8.decode s pos).2)) }) id _ (iterO b s (pos+(Utf8.decode s pos).2)) hO' (ptv b 0) rfl rfl rfl (by simp) (fun k hk hne=>by
  have hkb:b≠k:=fun e=>hne (by rw[hb,e];rfl);simp[hkb]) (fun b2 h2=>⟨.inl (by rw[hb];exact h2),by cases h2;simpa using hlt⟩) trivial fun _ _=>⟨by simp[bset],by simp[iterR,hlt],iterR_stable _ _ _⟩).put o.dst (dstOK.out hdst) (u:= .tuple #[.bool true,.int .i64 (pos:Int),.int .i32 ((Utf8.decode s pos).1:Int)]) (v:= .t [.d (.v (.bool true)),.d (.v (.int .i64 (pos:Int))),.d (.v (.int .i32 ((Utf8.decode s pos).1:Int)))]) ⟨[.bool true,.int .i64 (pos:Int),.int .i32 ((Utf8.decode s pos).1:Int)],rfl,rfl,fun i h h'=>by
   match i,h with
   | 0,_=>exact .v rfl
   | 1,_=>exact .v rfl
   | 2,_=>exact .v rfl⟩
 cases e:o.dst with
 | none=>rw[e]at this;exact this
 | some d=>rw[e]at this;exact this
end
section
variable {P:Program}{C:Cx}{o:Oper}{σ:AS}
theorem Do.litR{T:TypeId}{len d:Nat}{parts:Array (Nat×Operand)}{e:TypeId}{k by_:Nat}{xs:List (List D)}(ho:o.op= .buildSlice T len parts)(hd:o.dst=some d)(h0:Nat.blt 0 len=true)[h:Sl P T e k by_](hp:litD σ parts.toList 0=some xs)(hlen:xs.length=len)(hk:(xs.all fun x=>Nat.beq x.length k)=true)(hsm:Nat.ble (len*k) 16777216=true)(hk0:Nat.blt 0 k=true):Do P C o σ (.r d 0) ⟨[],[],[(d,.row 0 e k xs)],some d⟩:=by
 intro σ' hl hdst a w K Q' ⟨β,hi⟩ hK;have hpe:∀ x∈parts.toList,RA (Dat C β σ'.objs w) w β σ'.objs (a.eval x.2) (ev σ x.2):=fun x hx=>hl.ra hi (by rw[ho];simp only[Op.operands];simpa using ⟨x.1,by simpa using hx⟩);have hk':∀ x∈xs,x.length=k:=fun x hx=>Nat.eq_of_beq_eq_true (List.all_eq_true.1 hk x hx);obtain⟨ie,z,h1,h2,h3,h4,h5⟩:=h.e.info;rw[Nat.ble_eq]at hsm;rw[Nat.blt_eq]at hk0 h0;subst hlen;have hmax:xs.length≤maxLen:=by
  have:xs.length≤xs.length*k:=Nat.le_mul_of_pos_right _ hk0;unfold maxLen;omega
 have hpos:¬ xs.length*k=0:=by
  have:=Nat.mul_pos h0 hk0;omega
 obtain⟨arr,css,r1,r2,r3,r4⟩:=litD_sound k (cells:=(Array.range (xs.length*k)).map (z.cells[· % z.cells.size]!)) hpe hp hk' (by simp);have hf:Instr.fill (fun i=>some (i*ie.size,ie.size)) ((Array.range (xs.length*ie.size)).map (z.cells[· % z.cells.size]!)) (parts.map fun(i,x)=>(i,a.eval x)).toList=some arr:=by rw[h3,←r1];simp
 have hrun:(execOp a.eval o).run P w= .ok (.value (.slice (some ⟨w.heap.size,0,none⟩) xs.length xs.length)) (w.alloc (.cells arr e)):=by
  unfold execOp;rw[ho];simp only[Sem.run_bind,run_buildSlice w T e xs.length _ arr ie z h.e.under h1 h2 (by rw[h3];omega) (by rw[h3];exact hpos) hf,Result.andThen_ok];rfl
 have hflat:arr.toList=css.flatten:=by rw[r2];simp
 unfold Oper.wp;rw[hrun];have hx:Ext w (w.alloc (.cells arr e)):=(Below.refl _ _).al _;refine hK _ _ ⟨bset β d (slv w.heap.size xs.length xs.length),?_⟩;rw[hd];have:=Inv.put (hi.fresh d (dstOK.out hdst d hd) (hl.new d rfl) (.row 0 e k xs) hx (slv w.heap.size xs.length xs.length) (fun b hb=>by cases hb;exact⟨Nat.le_refl _,by simp⟩) (fun hD=>?_)) (some d) (fun t ht=>by cases ht;exact dstOK.out hdst d hd) (v:= .r d 0) (u:=slv w.heap.size xs.length xs.length) ?_
 ·exact this
 ·refine⟨css,r3,fun i h h'=>(r4 i h h').keep hD,hk',?_⟩;have e0:bset β d (slv w.heap.size xs.length xs.length) d=slv w.heap.size xs.length xs.length:=by simp[bset]
  have hfl:=flat_len r3 r4 hk';have hlen:css.flatten.length=xs.length*k:=by rw[flatten_len hfl,r3]
  have hsz:arr.size=xs.length*k:=by rw[←hlen,←hflat];simp
  rw[e0];exact⟨hlen,.inr ⟨w.heap.size,xs.length,arr,rfl,Nat.zero_le _,heap_alloc_new w _,Nat.le_refl _,hmax,hsz,by rw[List.take_of_length_le (by simp;omega),hflat]⟩⟩
 ·intro g' e2 k2 xs2 h4;rw[get?_cons,if_pos rfl]at h4;cases h4;exact⟨Nat.le_refl _,fun _=>by simp[bset]⟩
end
end Go.Proofs.YtbbpecfapohlaaaGreatDoor
