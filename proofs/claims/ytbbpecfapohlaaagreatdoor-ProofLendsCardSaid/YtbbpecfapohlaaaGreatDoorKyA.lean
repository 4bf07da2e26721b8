import Derived.Lib.AppendIntMem
import Derived.DeepKeys4
import Derived.Test.YtbbpecfapohlaaaGreatDoorOpen
import Derived.Test.YtbbpecfapohlaaaGreatDoorTab
import Derived.Test.YtbbpecfapohlaaaGreatDoorAtm
import Derived.Test.YtbbpecfapohlaaaGreatDoorK3
set_option maxRecDepth 100000
set_option maxHeartbeats 8000000
namespace Go.Proofs.YtbbpecfapohlaaaGreatDoor
open Go.RowKit
attribute [local irreducible] AC Do St
section
variable {P:Program}{C:Cx}{o:Oper}{σ:AS}
theorem Loc.lookS{T Kt Et:TypeId}{m x:Operand}{b n id:Nat}{M:DataW Unit}{xs:List Value}{kl:Lit}{c:Int}(ho:o.op= .lookup T m x false)(hm:ev σ m= .d (.v (.map (some b))))(hO:get? σ.objs id=some (mapO P Kt Et b n M))(hx:ev σ x= .g (xs.map D.v))
  (hT:P.underlying T=some (.map Kt Et)) (hE:P.underlying Et=some (.int .i64)) (hz:∀ w,(zeroValue Et).run P w= .ok (.int .i64 0) w) (hk:Go.Maps.Keyed P Kt) (hkey:keyOf P Kt (.agg xs.toArray)=some kl) (hc:M.atKey kl (.lit (.int .i64 0))= .lit (.int .i64 c)):
  LocR P C o σ (.d (.v (.int .i64 c))) id:=by
 refine Loc.quiet fun σ' hl β a w hi=>?_;have h1:=hl.ra hi (x:=m) (by rw[ho];simp[Op.operands]);have h2:=hl.ra hi (x:=x) (by rw[ho];simp[Op.operands]);rw[hm]at h1;rw[hx]at h2;have e1:=RA.val h1;obtain⟨us,e2,h3⟩:=h2;have e3:=vals_of h3;subst e3;have hO':get? σ'.objs id=some (mapO P Kt Et b n M):=by rw[hl.rd id (by simp)];exact hO
 obtain⟨_,hown,_⟩:=hi.obj id _ hO';have hown:w.ownsMap P Kt (plainElem P Et) b n M:=hown;obtain⟨v,ps,hrun,hv⟩:=hown.lookup hk hT (hz w) (plainElem_int hE (by decide)) hkey;obtain⟨c',rfl,hc',_⟩:=plainElem_int_inv hE hv;simp only[Prod.mk.injEq]at hc';rw[hc]at hc';obtain⟨hc',_⟩:=hc';cases hc';exact⟨.int .i64 c,by unfold execOp;rw[ho];simp[e1,e2,hrun],.v rfl⟩
end
def enK0:List D:=[.v (.bool false),.v (.string (tx [])),.v (.string (tx []))]
def keyL(op:Int)(k:List D)(s:List UInt8):List D:= .v (.int .i64 op)::(k++[.v (.string (tx s))])
theorem keyOfNo(a:At)(ho:¬ okOp a.op):Fn Tryz.prog 169 [.g (enA a)] [.g (keyL 0 enK0 []),.d (.v (.int .i64 4))]:=by
 refine Fn.of Tryz.func169 rfl (by kernel_rfl) Tryz.ntmps169 Tryz.results169 rfl fun w0 S0=>?_;refine wk ?_;refine c1 (canNo a ho) ?_;refine wk ?_;exact⟨.cn rfl rfl inferInstance rfl ⟨.inl rfl,.inl rfl,.inl rfl,.inl rfl,.inl rfl,trivial⟩,.d rfl (.inl rfl),trivial⟩
theorem keyOfNum(a:At)(k:Nat)(ho:okOp a.op)(ht:∀ t∈a.e.t,Bd k t.2)(hk:(a.e.t.length+2)*(k+1)≤50000000)(h0:canL a.e.t=[]):Fn Tryz.prog 169 [.g (enA a)] [.g (keyL (-(if sayB a.op a.e.c then 1 else 2)) enK0 []),.d (.v (.int .i64 0))]:=by
 have h:=canNum a k ho ht hk h0;cases hs:sayB a.op a.e.c with
 | true=>
   rw[hs]at h;refine Fn.of Tryz.func169 rfl (by kernel_rfl) Tryz.ntmps169 Tryz.results169 rfl fun w0 S0=>?_;refine wk ?_;refine c1 h ?_;refine wk ?_;((try (first | intro K ms hms hK | intro K hK));(first | apply Chain.go | apply Chain.goD);exact rfl;exact rfl;exact Loc.neg rfl rfl (by decide));refine wk ?_;exact⟨.cn rfl rfl inferInstance rfl ⟨.inl rfl,.inl rfl,.inl rfl,.inl rfl,.inl rfl,trivial⟩,.d rfl (.inl rfl),trivial⟩
 | false=>
   rw[hs]at h;refine Fn.of Tryz.func169 rfl (by kernel_rfl) Tryz.ntmps169 Tryz.results169 rfl fun w0 S0=>?_;refine wk ?_;refine c1 h ?_;refine wk ?_;((try (first | intro K ms hms hK | intro K hK));(first | apply Chain.go | apply Chain.goD);exact rfl;exact rfl;exact Loc.neg rfl rfl (by decide));refine wk ?_;exact⟨.cn rfl rfl inferInstance rfl ⟨.inl rfl,.inl rfl,.inl rfl,.inl rfl,.inl rfl,trivial⟩,.d rfl (.inl rfl),trivial⟩
theorem keyOfOpen(a:At)(b:At)(kb:Nat)(hcan:Fn Tryz.prog 117 [.g (enA a)] [.g (enA b),.d (.v (.int .i64 0)),.d (.v (.int .i64 0))])(hkb:kb≤100000)(hn:b.e.t.length≤1000)(hbd:∀ t∈b.e.t,Bd kb t.2)(hbc:Bd kb b.e.c)(hv:∀ t∈b.e.t,-9223372036854775808≤t.1∧t.1≤9223372036854775807):
  FnK Tryz.prog 169 Tab [.g (enA a)] [.g (keyL b.op (enK b.e.c) (keyT b.e.t)),.d (.v (.int .i64 0))]:=by
 obtain⟨⟨l,c⟩,op⟩:=b;dsimp only at hn hbd hbc hv ⊢;have hkey:=keyOfR c hbc (by omega);refine FnK.of Tryz.func169 rfl (by kernel_rfl) Tryz.ntmps169 Tryz.results169 rfl fun w0 S0 hK0=>?_;refine wk ?_;refine c1 hcan ?_;refine wk ?_;refine AC.loop (X:=Nat) (fun i=>⟨[(1,.p 1 0),(2,.p 2 0),(4,.p 4 0),(7,.d (.v (.string (tx (keyT (l.take i)))))),(29,.d (.l (l.map enT))),(30,.d (.v (.int .i64 (l.length:Int)))),(31,.d (.v (.int .i64 (i:Int))))],[(2,.box 260 [.d (.v (.int .i64 0)),.d (.v (.bool false)),.d (.v (.string ⟨#[]⟩)),.d (.v (.string ⟨#[]⟩)),.d (.v (.string ⟨#[]⟩))]),(4,.box 108 ((enA ⟨⟨l,c⟩,op⟩).map .d))]⟩) (fun i=>i≤l.length∧(keyT (l.take i)).length≤i*1000000) (fun i=>l.length-i) 0 ⟨Nat.zero_le _,Nat.zero_le _⟩ ⟨rfl,rfl,rfl,rfl,rfl,rfl,rfl,trivial⟩ ⟨rfl,rfl,trivial⟩ ?_;intro i ⟨hi,hlen⟩;refine wk ?_;refine s1 (fun h1=>?_) (fun h1=>?_)
 ·have hi':i<l.length:=by omega
  have hget:l[i]?=some l[i]:=List.getElem?_eq_getElem hi';have hb:=hbd _ (List.getElem_mem hi');obtain⟨v1,v2⟩:=hv _ (List.getElem_mem hi');have hs:keyT (l.take (i+1))=keyT (l.take i)++(Lib.itoa l[i].1++58::(printL l[i].2++[32])):=by
   rw[List.take_succ_eq_append_getElem hi',keyT_snoc]
  generalize l[i]=t at hget hb v1 v2 hs;obtain⟨v,q⟩:=t;dsimp only at hb v1 v2 hs;have e1:=Lib.itoa_length_le v v1 v2;have e2:=printL_len q;have e3:=limbs_len_bd hb.1;have e4:=limbs_len_bd hb.2;have hit:=itoaF v v1 v2;have hpr:=printF hb (by omega);generalize Lib.itoa v=I at e1 hit hs;generalize printL q=R at e2 hpr hs;generalize keyT (l.take i)=T at hs hlen ⊢;refine wk ?_;refine c1 hit ?_;refine wk ?_;((try (first | intro K ms hms hK | intro K hK));(first | apply Chain.go | apply Chain.goD);exact rfl;exact rfl;exact Loc.strAdd rfl rfl rfl (by show I.length+1≤_;omega));refine wk ?_;refine c1 hpr ?_;have a1:tx I++(⟨#[58]⟩:ByteArray)=tx (I++[58]):=tx_app I [58];rw[a1];((try (first | intro K ms hms hK | intro K hK));(first | apply Chain.go | apply Chain.goD);exact rfl;exact rfl;exact Loc.strAdd rfl rfl rfl (by rw[tx_size,tx_size,List.length_append];simp;omega));rw[tx_app];((try (first | intro K ms hms hK | intro K hK));(first | apply Chain.go | apply Chain.goD);exact rfl;exact rfl;exact Loc.strAdd rfl rfl rfl (by rw[tx_size];show (I++[58]++R).length+1≤_;simp;omega));rw[show tx (I++[58]++R)++(⟨#[32]⟩:ByteArray)=tx (I++[58]++R++[32])from tx_app _ [32]];((try (first | intro K ms hms hK | intro K hK));(first | apply Chain.go | apply Chain.goD);exact rfl;exact rfl;exact Loc.strAdd rfl rfl rfl (by rw[tx_size,tx_size];simp;omega));rw[tx_app];refine wk ?_;refine⟨i+1,⟨by omega,?_⟩,by omega,⟨rfl,rfl,rfl,?_,rfl,rfl,rfl,trivial⟩,⟨rfl,rfl,trivial⟩⟩
  ·rw[hs];simp;omega
  ·rw[hs];simp only[List.append_assoc,List.cons_append,List.nil_append];rfl
 ·obtain rfl:i=l.length:=by omega
  rw[List.take_length];refine wk ?_;refine c1 hkey ?_;refine wk ?_;exact⟨.cn rfl rfl inferInstance rfl ⟨.inl rfl,.inl rfl,.inl rfl,.inl rfl,.inl rfl,trivial⟩,.d rfl (.inl rfl),trivial⟩
end Go.Proofs.YtbbpecfapohlaaaGreatDoor
namespace Go.Proofs.YtbbpecfapohlaaaGreatDoor
open Go.RowKit
attribute [local irreducible] AC Do St
theorem rising_ext:∀ {l m:List Int},l.Pairwise (· < ·)→m.Pairwise (· < ·)→(∀v,v∈l↔v∈m)→l=m
 | [],[],_,_,_=>rfl
 | [],y::m,_,_,h=>absurd ((h y).2 (by simp)) (by simp)
 | x::l,[],_,_,h=>absurd ((h x).1 (by simp)) (by simp)
 | x::l,y::m,hl,hm,h=>by
   obtain⟨h1,h2⟩:=List.pairwise_cons.1 hl;obtain⟨h3,h4⟩:=List.pairwise_cons.1 hm;have hxy:x=y:=by
    have a1:=(h x).1 (by simp);have a2:=(h y).2 (by simp);rcases List.mem_cons.1 a1 with e | e
    ·exact e
    ·rcases List.mem_cons.1 a2 with e2 | e2
     ·exact e2.symm
     ·have:=h3 x e;have:=h1 y e2;omega
   subst hxy;rw[rising_ext h2 h4 fun v=>?_];constructor
   ·intro hv;rcases List.mem_cons.1 ((h v).1 (by simp[hv]))with e | e
    ·have:=h1 v hv;omega
    ·exact e
   ·intro hv;rcases List.mem_cons.1 ((h v).2 (by simp[hv]))with e | e
    ·have:=h3 v hv;omega
    ·exact e
noncomputable def usedI (e:Ex):List Int:=(varsE [e]).filter fun v=>!decide (coef e.t v=0)
theorem usedI_mem(e:Ex)(v:Int):v∈usedI e↔coef e.t v≠0:=by
 obtain⟨_,h2,_⟩:=varsE_spec [e];unfold usedI;rw[List.mem_filter,h2];constructor
 ·intro ⟨_,h⟩;simpa using h
 ·intro h;obtain⟨t,ht,e1⟩:=coef_ne_mem h;exact⟨⟨e,by simp,t,ht,e1⟩,by simpa using h⟩
theorem usedI_rising(e:Ex):(usedI e).Pairwise (· < ·):=(varsE_spec [e]).1.filter _
theorem usedI_eq{a b:Ex}(h:∀ v,coef a.t v≠0↔coef b.t v≠0):usedI a=usedI b:=
 rising_ext (usedI_rising a) (usedI_rising b) fun v=>by rw[usedI_mem,usedI_mem];exact h v
theorem usedF{N k:Nat}{e:Ex}(he:Sm N k e)(hk:8*((N+2)*(k+1))≤8000000):Fn Tryz.prog 162 [.g (enEQ e)] [.d (enI (usedI e))]:=by
 obtain⟨hv1,hv2,hv3⟩:=varsE_spec [e];have hvl:(varsE [e]).length≤30000000:=by
  have h1:=he.len 1000000 (by omega);simp[tot]at hv3;omega
 have hu:usedI e=(varsE [e]).filter fun v=>!decide (coef e.t v=0):=rfl;refine Fn.of Tryz.func162 rfl (by kernel_rfl) Tryz.ntmps162 Tryz.results162 rfl fun w0 S0=>?_;refine wk ?_;refine c1 (varsQ [e] (by simp) (by
  intro x hx;simp at hx;subst hx;exact he.len 1000000 (by omega))) ?_
 refine wk ?_;refine AC.loop (X:=Nat×Nat) (fun x=>⟨[(1,.p 1 0),(3,.r 6 x.2),(9,.d (enI (varsE [e]))),(10,.d (.v (.int .i64 ((varsE [e]).length:Int)))),(11,.d (.v (.int .i64 (x.1:Int))))],[(1,.box 140 ((enEQ e).map .d)),(6,.row x.2 3 1 (ivs (((varsE [e]).take x.1).filter fun v=>!decide (coef e.t v=0))))]⟩) (fun x=>x.1≤(varsE [e]).length) (fun x=>(varsE [e]).length-x.1) (0,0) (Nat.zero_le _) ⟨rfl,rfl,rfl,rfl,rfl,trivial⟩ ⟨rfl,rfl,trivial⟩ ?_;intro ⟨i,g⟩ hi;dsimp only at hi ⊢;refine wk ?_;refine s1 (fun h2=>?_) (fun h2=>?_)
 ·have hi':i<(varsE [e]).length:=by omega
  have hget:(varsE [e])[i]?=some (varsE [e])[i]:=List.getElem?_eq_getElem hi';have htk:((varsE [e]).take (i+1)).filter (fun v=>!decide (coef e.t v=0))=((varsE [e]).take i).filter (fun v=>!decide (coef e.t v=0))++[(varsE [e])[i]].filter (fun v=>!decide (coef e.t v=0)):=by
   rw[List.take_succ_eq_append_getElem hi',List.filter_append]
  have hfl:(((varsE [e]).take i).filter fun v=>!decide (coef e.t v=0)).length≤30000000:=by
   have:=List.length_filter_le (fun v=>!decide (coef e.t v=0)) ((varsE [e]).take i);simp only[List.length_take]at this;omega
  generalize (varsE [e])[i]=v at hget htk;generalize ((varsE [e]).take i).filter (fun v=>!decide (coef e.t v=0))=Q at htk hfl ⊢;have hql:(ivs Q).length=Q.length:=by simp[ivs]
  refine wk ?_;refine c1 (he.coefQ v (by omega)) ?_;refine wk ?_;refine c1 (qSign (coef e.t v)) ?_;refine wk ?_;refine s1 (fun h3=>?_) (fun h3=>?_)
  ·have hne:coef e.t v≠0:=fun h=>h3 (sgnR_zero.2 h);refine wk ?_;refine⟨(i+1,g+1),by dsimp only;omega,by dsimp only;omega,⟨rfl,rfl,rfl,rfl,rfl,trivial⟩,⟨rfl,?_,trivial⟩⟩;dsimp only;rw[htk,List.filter_cons_of_pos (by simpa using hne),List.filter_nil,ivs_snoc];rfl
  ·have h3':coef e.t v=0:=sgnR_zero.1 (Classical.byContradiction h3);refine wk ?_;refine⟨(i+1,g),by dsimp only;omega,by dsimp only;omega,⟨rfl,rfl,rfl,rfl,rfl,trivial⟩,⟨rfl,?_,trivial⟩⟩;dsimp only;rw[htk,List.filter_cons_of_neg (by simpa using h3'),List.filter_nil,List.append_nil];rfl
 ·obtain rfl:i=(varsE [e]).length:=by omega
  rw[List.take_length,←hu];refine wk ?_;exact⟨.d rfl ⟨_,_,rfl⟩,trivial⟩
def SameP(a b:At):Prop:=truthI a=truthI b∧∀ v c w d,leadQ a.e=some (v,c)→leadQ b.e=some (w,d)→a.op=b.op∧byQ a.op c*a.e.c=byQ b.op d*b.e.c∧∀ u,byQ a.op c*coef a.e.t u=byQ b.op d*coef b.e.t u
theorem SameP.used{a b:At}{v w:Int}{c d:Rat}(h:SameP a b)(ha:leadQ a.e=some (v,c))(hb:leadQ b.e=some (w,d)):usedI a.e=usedI b.e:=by
 obtain⟨_,_,h3⟩:=h.2 _ _ _ _ ha hb;have n1:=byQ_ne (op:=a.op) (leadQ_ne ha).1;have n2:=byQ_ne (op:=b.op) (leadQ_ne hb).1;refine usedI_eq fun u=>?_;have:=h3 u;constructor
 ·intro h0 e;rw[e,Rat.mul_zero]at this;rcases Rat.mul_eq_zero.1 this with h | h
  ·exact n1 h
  ·exact h0 h
 ·intro h0 e;rw[e,Rat.mul_zero]at this;rcases Rat.mul_eq_zero.1 this.symm with h | h
  ·exact n2 h
  ·exact h0 h
theorem same_open{a b:At}{v w:Int}{c d:Rat}(ha:leadQ a.e=some (v,c))(hb:leadQ b.e=some (w,d)):SameP a b↔a.op=b.op∧byQ a.op c*a.e.c=byQ b.op d*b.e.c∧∀ u,byQ a.op c*coef a.e.t u=byQ b.op d*coef b.e.t u:=by
 constructor
 ·intro h;exact h.2 _ _ _ _ ha hb
 ·intro h;refine⟨by rw[truth_some ha,truth_some hb],fun v' c' w' d' h1 h2=>?_⟩;rw[ha]at h1;rw[hb]at h2;cases h1;cases h2;exact h
theorem same_shut{a b:At}(h:leadQ a.e=none∨leadQ b.e=none):SameP a b↔truthI a=truthI b:=by
 constructor
 ·exact fun h=>h.1
 ·refine fun h1=>⟨h1,fun v c w d h2 h3=>?_⟩
  rcases h with h | h
  ·rw[h]at h2;cases h2
  ·rw[h]at h3;cases h3
theorem false_of{r:Bool}{p:Prop}(hr:r=true↔p)(h:¬ p):r=false:=by
 cases r with
 | true=>exact absurd (hr.1 rfl) h
 | false=>rfl
theorem truth_shut{a:At}(h:leadQ a.e=none):truthI a=1∨truthI a=2:=by
 rw[truth_none h];split<;>simp
theorem sameShut{N k:Nat}(a b:At)(ha:Sm N k a.e)(hb:Sm N k b.e)(hk:8*((N+2)*(k+1))≤8000000)(h:leadQ a.e=none∨leadQ b.e=none)(r:Bool)(hr:r=true↔SameP a b):Fn Tryz.prog 96 [.g (enAQ a),.g (enAQ b)] [.d (.v (.bool r))]:=by
 have q1:=truthQ a ha hk;have q2:=truthQ b hb hk;rw[same_shut h]at hr;have hne:truthI a=truthI b→truthI a≠0:=fun e h0=>by
  rcases h with h | h
  ·have:=truth_shut h;omega
  ·have:=truth_shut h;omega
 generalize truthI a=s at q1 hr hne;generalize truthI b=t at q2 hr hne;refine Fn.of Tryz.func96 rfl (by kernel_rfl) Tryz.ntmps96 Tryz.results96 rfl fun w0 S0=>?_;refine wk ?_;refine c1 q1 ?_;refine wk ?_;refine c1 q2 ?_;refine wk ?_;refine s1 (fun h1=>?_) (fun h1=>?_)
 ·refine wk ?_;rw[false_of hr h1];exact⟨.d rfl (.inl rfl),trivial⟩
 ·have h1:s=t:=Classical.byContradiction h1;have h2:=hne h1;refine wk ?_;rw[hr.2 h1];exact⟨.d rfl (.inl rfl),trivial⟩
theorem sameOpen{N k:Nat}(a b:At)(ha:Sm N k a.e)(hb:Sm N k b.e)(hk:16*((N+2)*(k+1))≤8000000){v w:Int}{c d:Rat}(hla:leadQ a.e=some (v,c))(hlb:leadQ b.e=some (w,d))(hbc:Bd k c)(hbd:Bd k d)(r:Bool)(hr:r=true↔SameP a b):Fn Tryz.prog 96 [.g (enAQ a),.g (enAQ b)] [.d (.v (.bool r))]:=by
 have q1:=truthQ a ha (by omega);have q2:=truthQ b hb (by omega);rw[truth_some hla]at q1;rw[truth_some hlb]at q2;have hrf:=fun h=>false_of hr h;have hused:SameP a b→usedI a.e=usedI b.e:=fun h=>h.used hla hlb;rw[same_open hla hlb]at hr hused;rw[same_open hla hlb]at hrf;have hkk:k≤8000000:=by have:=Sm.k (N:=N) (k:=k);omega
 have hul:(usedI a.e).length≤30000000:=by
  have h1:=ha.len 1000000 (by omega);have h2:=(varsE_spec [a.e]).2.2;have h3:=List.length_filter_le (fun v=>!decide (coef a.e.t v=0)) (varsE [a.e]);have h4:(usedI a.e).length=((varsE [a.e]).filter fun v=>!decide (coef a.e.t v=0)).length:=rfl;simp[tot]at h2;omega
 by_cases hop:a.op=b.op
 ·have u1:=usedF ha (by omega);have u2:=usedF hb (by omega);have b1:=byF a ha (by omega) hla (absR_ne (leadQ_ne hla).1);have b2:=byF b hb (by omega) hlb (absR_ne (leadQ_ne hlb).1);have d1:=Bd.byQ a.op hbc (leadQ_ne hla).1;have d2:=Bd.byQ b.op hbd (leadQ_ne hlb).1;generalize byQ a.op c=p at*;generalize byQ b.op d=q at*;generalize usedI a.e=U at*;generalize usedI b.e=W at*;refine Fn.of Tryz.func96 rfl (by kernel_rfl) Tryz.ntmps96 Tryz.results96 rfl fun w0 S0=>?_;refine wk ?_;refine c1 q1 ?_;refine wk ?_;refine c1 q2 ?_;refine wk ?_;refine c1 u1 ?_;refine wk ?_;refine c1 u2 ?_;refine wk ?_;refine s1 (fun h1=>?_) (fun h1=>?_)
  ·have hF:r=false:=hrf fun h=>h1 (by rw[hused h]);refine wk ?_;rw[hF];exact⟨.d rfl (.inl rfl),trivial⟩
  have hUW:U.length=W.length:=by omega
  refine wk ?_;refine AC.loop (X:=Nat) (fun i=>⟨[(2,.p 2 0),(3,.p 3 0),(7,.d (enI U)),(8,.d (enI W)),(46,.d (.v (.int .i64 (U.length:Int)))),(47,.d (.v (.int .i64 (i:Int))))],[(3,.box 142 ((enAQ b).map .d)),(2,.box 142 ((enAQ a).map .d))]⟩) (fun i=>i≤U.length∧U.take i=W.take i) (fun i=>U.length-i) 0 ⟨Nat.zero_le _,rfl⟩ ⟨rfl,rfl,rfl,rfl,rfl,rfl,trivial⟩ ⟨rfl,rfl,trivial⟩ ?_;intro i ⟨hi,heq⟩;refine wk ?_;refine s1 (fun h2=>?_) (fun h2=>?_)
  ·have hi':i<U.length:=by omega
   have hi2:i<W.length:=by omega
   have hga:U[i]?=some U[i]:=List.getElem?_eq_getElem hi';have hgb:W[i]?=some W[i]:=List.getElem?_eq_getElem hi2;have hs:U[i]=W[i]→U.take (i+1)=W.take (i+1):=fun h=>by rw[List.take_succ_eq_append_getElem hi',List.take_succ_eq_append_getElem hi2,heq,h]
   have hn:¬ U[i]=W[i]→¬ U=W:=fun h h2=>h (by subst h2;rfl);generalize U[i]=x at hga hs hn;generalize W[i]=y at hgb hs hn;refine wk ?_;refine s1 (fun h3=>?_) (fun h3=>?_)
   ·have hF:r=false:=hrf fun h=>hn h3 (hused h);refine wk ?_;rw[hF];exact⟨.d rfl (.inl rfl),trivial⟩
   ·refine wk ?_;exact⟨i+1,⟨by omega,hs (Classical.byContradiction h3)⟩,by omega,⟨rfl,rfl,rfl,rfl,rfl,rfl,trivial⟩,⟨rfl,rfl,trivial⟩⟩
  obtain rfl:i=U.length:=by omega
  have m1:=qMul d1 ha.c (by omega);have m2:=qMul d2 hb.c (by omega);have cm:=qCmp (d1.mul ha.c) (d2.mul hb.c) (by omega);refine wk ?_;refine c1 b1 ?_;refine wk ?_;refine c1 b2 ?_;refine wk ?_;refine c1 m1 ?_;refine wk ?_;refine c1 m2 ?_;refine c1 cm ?_;refine wk ?_;refine s1 (fun h4=>?_) (fun h4=>?_)
  ·have hF:r=false:=hrf fun h=>h4 (sgnR_eq.2 h.2.1);refine wk ?_;rw[hF];exact⟨.d rfl (.inl rfl),trivial⟩
  have h4:p*a.e.c=q*b.e.c:=sgnR_eq.1 (Classical.byContradiction h4);obtain⟨hv1,hv2,hv3⟩:=varsE_spec [a.e,b.e];have hvl:(varsE [a.e,b.e]).length≤30000000:=by
   have h1:=ha.len 1000000 (by omega);have h2:=hb.len 1000000 (by omega);simp[tot]at hv3;omega
  have hvars:=varsQ [a.e,b.e] (by simp) (by
   intro x hx;simp at hx;rcases hx with hx | hx
   ·subst hx;exact ha.len 1000000 (by omega)
   ·subst hx;exact hb.len 1000000 (by omega))
  generalize varsE [a.e,b.e]=V at hv1 hv2 hv3 hvl hvars;refine wk ?_;refine c1 hvars ?_;refine wk ?_;refine AC.loop (X:=Nat) (fun i=>⟨[(2,.p 2 0),(3,.p 3 0),(10,.p 10 0),(11,.p 11 0),(81,.d (enI V)),(82,.d (.v (.int .i64 (V.length:Int)))),(83,.d (.v (.int .i64 (i:Int))))],[(3,.box 142 ((enAQ b).map .d)),(2,.box 142 ((enAQ a).map .d)),(10,.box 136 ((enQ p).map .d)),(11,.box 136 ((enQ q).map .d))]⟩) (fun i=>i≤V.length∧∀ u∈V.take i,p*coef a.e.t u=q*coef b.e.t u) (fun i=>V.length-i) 0 ⟨Nat.zero_le _,by simp⟩ ⟨rfl,rfl,rfl,rfl,rfl,rfl,rfl,trivial⟩ ⟨rfl,rfl,rfl,rfl,trivial⟩ ?_;intro i ⟨hi,hok⟩;refine wk ?_;refine s1 (fun h5=>?_) (fun h5=>?_)
  ·have hi':i<V.length:=by omega
   have hget:V[i]?=some V[i]:=List.getElem?_eq_getElem hi';have htk:V.take (i+1)=V.take i++[V[i]]:=List.take_succ_eq_append_getElem hi';generalize V[i]=u at hget htk;have e1:=ha.coefQ u (by omega);have e2:=hb.coefQ u (by omega);have z1:=ha.coef u;have z2:=hb.coef u;have m3:=qMul d1 z1 (by omega);have m4:=qMul d2 z2 (by omega);have cm2:=qCmp (d1.mul z1) (d2.mul z2) (by omega);refine wk ?_;refine c1 e1 ?_;refine c1 m3 ?_;refine wk ?_;refine c1 e2 ?_;refine c1 m4 ?_;refine c1 cm2 ?_;refine wk ?_;refine s1 (fun h6=>?_) (fun h6=>?_)
   ·have hF:r=false:=hrf fun h=>h6 (sgnR_eq.2 (h.2.2 u));refine wk ?_;rw[hF];exact⟨.d rfl (.inl rfl),trivial⟩
   ·have h6:=sgnR_eq.1 (Classical.byContradiction h6);refine wk ?_;refine⟨i+1,⟨by omega,fun x hx=>?_⟩,by omega,⟨rfl,rfl,rfl,rfl,rfl,rfl,rfl,trivial⟩,⟨rfl,rfl,rfl,rfl,trivial⟩⟩;rw[htk]at hx;rcases List.mem_append.1 hx with hx | hx
    ·exact hok x hx
    ·rw[List.mem_singleton.1 hx];exact h6
  ·rw[List.take_of_length_le (by omega)]at hok;have hT:r=true:=hr.2 ⟨hop,h4,fun u=>by
    by_cases hm:u∈V
    ·exact hok u hm
    ·have e1:coef a.e.t u=0:=coef_none fun t ht hv=>hm ((hv2 u).2 ⟨a.e,by simp,t,ht,hv⟩);have e2:coef b.e.t u=0:=coef_none fun t ht hv=>hm ((hv2 u).2 ⟨b.e,by simp,t,ht,hv⟩);rw[e1,e2,Rat.mul_zero,Rat.mul_zero]⟩
   refine wk ?_;rw[hT];exact⟨.d rfl (.inl rfl),trivial⟩
 ·have hF:r=false:=hrf fun h=>hop h.1;refine Fn.of Tryz.func96 rfl (by kernel_rfl) Tryz.ntmps96 Tryz.results96 rfl fun w0 S0=>?_;refine wk ?_;refine c1 q1 ?_;refine wk ?_;refine c1 q2 ?_;refine wk ?_;rw[hF];exact⟨.d rfl (.inl rfl),trivial⟩
end Go.Proofs.YtbbpecfapohlaaaGreatDoor
namespace Go.Proofs.YtbbpecfapohlaaaGreatDoor
open Go.RowKit
attribute [local irreducible] AC Do St
def kvV(op:Int)(neg:Bool)(x y s:List UInt8):List Value:=[.int .i64 op,.bool neg,.string (tx x),.string (tx y),.string (tx s)]
theorem keyd9:Go.Maps.Keyed Tryz.prog 260:=Go.Maps.Keyed.of_law (deep_law_laid (m:=3) (by kernel_rfl) (by omega) (of_decide_eq_true (by kernel_rfl)) (by kernel_rfl) (by kernel_rfl))
theorem key9_some(a:Int)(neg:Bool)(x y z:ByteArray)(ha:(Lit.int .i64 a).wf=true)(hx:x.size≤maxLen)(hy:y.size≤maxLen)(hz:z.size≤maxLen):∃ l,keyOf Tryz.prog 260 (.agg #[.int .i64 a,.bool neg,.string x,.string y,.string z])=some l:=by
 have hsz:(Tryz.prog).types.size+1=((Tryz.prog).types.size-2)+3:=by
  have:(1:Nat)<(Tryz.prog).types.size:=of_decide_eq_true (by kernel_rfl);omega
 have hf:Value.formed Tryz.prog 260 (.agg #[.int .i64 a,.bool neg,.string x,.string y,.string z])=true:=by
  unfold Value.formed
  kernel_rfl
 have hl:∃ ls,(Tryz.prog).keyLits ((Tryz.prog).types.size+1) 260 [.int .i64 a,.bool neg,.string x,.string y,.string z]=some ls:=by
  rw[hsz];generalize (Tryz.prog).types.size-2=n;have hi:∀ n,(Tryz.prog).keyLits (n+1) 3 [.int .i64 a]=some [.int .i64 a]:=fun n=>by
   unfold Program.keyLits;rw[Tryz.underlying3];simp[ha]
  have hb:∀ n,(Tryz.prog).keyLits (n+1) 4 [.bool neg]=some [.bool neg]:=fun n=>by
   unfold Program.keyLits;rw[Tryz.underlying4]
  have hs:∀ n,∀c:ByteArray,c.size≤maxLen→(Tryz.prog).keyLits (n+1) 9 [.string c]=some [.string c.data.toList]:=fun n c hc=>by
   unfold Program.keyLits;rw[Tryz.underlying9];simp[hc]
  have hci:(Tryz.prog).cellsOf 3=1:=by kernel_rfl
  have hcb:(Tryz.prog).cellsOf 4=1:=by kernel_rfl
  have hcs:(Tryz.prog).cellsOf 9=1:=by kernel_rfl
  have hcr:(Tryz.prog).cellsOf 258=3:=by kernel_rfl
  have hck:(Tryz.prog).cellsOf 260=5:=by kernel_rfl
  have hr:(Tryz.prog).keyLits (n+2) 258 [.bool neg,.string x,.string y]=some [.bool neg,.string x.data.toList,.string y.data.toList]:=by
   unfold Program.keyLits;rw[Tryz.underlying258];simp[hcb,hcs,hcr,hb,hs n x hx,hs n y hy]
  unfold Program.keyLits;rw[Tryz.underlying260];refine⟨[.int .i64 a,.bool neg,.string x.data.toList,.string y.data.toList,.string z.data.toList],?_⟩;simp[hci,hcs,hcr,hck,hi (n+1),hs (n+1) z hz,hr]
 obtain⟨ls,hl⟩:=hl;unfold keyOf;rw[Tryz.underlying260];have hkt:(Tryz.prog).keyType 260=true:=by kernel_rfl
 have hc:(Value.agg #[.int .i64 a,.bool neg,.string x,.string y,.string z]).cells.toList=[.int .i64 a,.bool neg,.string x,.string y,.string z]:=rfl;simp only[hkt,hf,Bool.and_self,if_true,hc,hl,Option.map_some];exact⟨_,rfl⟩
noncomputable def kLit (vs:List Value):Lit:=(keyOf Tryz.prog 260 (.agg vs.toArray)).getD .nil
def KV(vs:List Value):Prop:=keyOf Tryz.prog 260 (.agg vs.toArray)=some (kLit vs)
theorem kvV_KV(a:Int)(neg:Bool)(x y z:List UInt8)(ha: -9223372036854775808≤a∧a≤9223372036854775807)(hx:x.length≤1000000000)(hy:y.length≤1000000000)(hz:z.length≤1000000000):KV (kvV a neg x y z):=by
 obtain⟨l,hl⟩:=key9_some a neg (tx x) (tx y) (tx z) (WalkArith.wf_i64 (by omega)) (by rw[tx_size];unfold maxLen;omega) (by rw[tx_size];unfold maxLen;omega) (by rw[tx_size];unfold maxLen;omega);have hl:keyOf Tryz.prog 260 (.agg (kvV a neg x y z).toArray)=some l:=hl;unfold KV kLit;rw[hl];rfl
theorem KV.inj{xs ys:List Value}(hx:KV xs)(hy:KV ys)(h:kLit xs=kLit ys):xs=ys:=by
 have e1:keyOf Tryz.prog 260 (.agg xs.toArray)=some (kLit xs):=hx;have e2:keyOf Tryz.prog 260 (.agg ys.toArray)=some (kLit ys):=hy;rw[h]at e1;have:=keyd9.inj e1 e2;have:=congrArg Array.toList (Value.agg.inj this);simpa using this
theorem enK_inj{p q:Rat}(h1:decide (p.num<0)=decide (q.num<0))(h2:byL p.num.natAbs=byL q.num.natAbs)(h3:byL p.den=byL q.den):p=q:=by
 have e1:=byL_inj h2;have e2:=byL_inj h3;have e3:p.num<0↔q.num<0:=decide_eq_decide.1 h1;have e4:p.num=q.num:=by
  rcases Int.lt_or_le p.num 0 with h | h
  ·have:=e3.1 h;omega
  ·have:¬ q.num<0:=fun h'=>by have:=e3.2 h';omega
   omega
 exact Rat.ext e4 e2
theorem byL_den(q:Rat):byL q.den≠[]:=fun h=>by
 have h1:byL q.den=byL 0:=by rw[h];unfold byL;rw[digs_zero];rfl
 exact q.den_nz (byL_inj h1)
noncomputable def keyV (a:At):List Value:=match leadQ a.e with
 | none=>kvV (-(truthI a)) false [] [] []
 | some (_,c)=>kvV a.op (decide ((canA a c).e.c.num<0)) (byL (canA a c).e.c.num.natAbs) (byL (canA a c).e.c.den) (keyT (canA a c).e.t)
theorem keyV_none{a:At}(h:leadQ a.e=none):keyV a=kvV (-(truthI a)) false [] [] []:=by unfold keyV;rw[h]
theorem keyV_some{a:At}{v:Int}{c:Rat}(h:leadQ a.e=some (v,c)):keyV a=kvV a.op (decide ((canA a c).e.c.num<0)) (byL (canA a c).e.c.num.natAbs) (byL (canA a c).e.c.den) (keyT (canA a c).e.t):=by unfold keyV;rw[h]
theorem kvV_eq{a a':Int}{n n':Bool}{x x' y y' z z':List UInt8}(h:kvV a n x y z=kvV a' n' x' y' z'):a=a'∧n=n'∧x=x'∧y=y'∧z=z':=by
 simp only[kvV,List.cons.injEq,Value.int.injEq,Value.bool.injEq,Value.string.injEq,true_and,and_true]at h;obtain⟨h1,h2,h3,h4,h5⟩:=h;exact⟨h1,h2,tx_inj h3,tx_inj h4,tx_inj h5⟩
theorem keyV_same(a b:At):keyV a=keyV b↔SameP a b:=by
 cases hla:leadQ a.e with
 | none=>
   rw[same_shut (.inl hla),keyV_none hla];cases hlb:leadQ b.e with
   | none=>
     rw[keyV_none hlb];constructor
     ·intro h;have:=(kvV_eq h).1;omega
     ·intro h;rw[h]
   | some x=>
     obtain⟨w,d⟩:=x;rw[keyV_some hlb,truth_some hlb];constructor
     ·intro h;exact absurd (kvV_eq h).2.2.2.1.symm (byL_den _)
     ·intro h;have:=truth_shut hla;omega
 | some x=>
   obtain⟨v,c⟩:=x;cases hlb:leadQ b.e with
   | none=>
     rw[same_shut (.inr hlb),keyV_none hlb,keyV_some hla,truth_some hla];constructor
     ·intro h;exact absurd (kvV_eq h).2.2.2.1 (byL_den _)
     ·intro h;have:=truth_shut hlb;omega
   | some y=>
     obtain⟨w,d⟩:=y;have hc:=(leadQ_ne hla).1;have hd:=(leadQ_ne hlb).1;rw[same_open hla hlb,keyV_some hla,keyV_some hlb];constructor
     ·intro h;obtain⟨h1,h2,h3,h4,h5⟩:=kvV_eq h;have e1:=enK_inj h2 h3 h4;have e2:=keyT_inj h5;rw[canA_c,canA_c]at e1;refine⟨h1,e1,fun u=>?_⟩;rw[←canA_coef a hc,←canA_coef b hd,e2]
     ·intro ⟨h1,h2,h3⟩;have e1:(canA a c).e.c=(canA b d).e.c:=by rw[canA_c,canA_c];exact h2
      have e2:(canA a c).e.t=(canA b d).e.t:=by
       refine form_inj ?_ ?_ fun u=>?_
       ·rw[canA_t a hc];exact scale_form (byQ_ne hc) (canL_spec a.e.t).1
       ·rw[canA_t b hd];exact scale_form (byQ_ne hd) (canL_spec b.e.t).1
       ·rw[canA_coef a hc,canA_coef b hd];exact h3 u
      rw[e1,e2,h1]
end Go.Proofs.YtbbpecfapohlaaaGreatDoor
