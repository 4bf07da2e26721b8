import Derived.Shelf.SlSortCmp.NoneTotal
import Derived.Shelf.SlicesG.CompactI
import Derived.Test.YtbbpecfapohlaaaGreatDoorKyA
import Derived.Test.YtbbpecfapohlaaaGreatDoorAtm
import Derived.Test.YtbbpecfapohlaaaGreatDoorK3
import Derived.Test.YtbbpecfapohlaaaGreatDoorProg
set_option maxRecDepth 100000
set_option maxHeartbeats 8000000
namespace Go.Proofs.YtbbpecfapohlaaaGreatDoor
open Go.RowKit
attribute [local irreducible] AC Do St
theorem form_at:∀ {l:List Tm},Form l→∀ t∈l,coef l t.1=t.2
 | [],_,t,h=>by simp at h
 | x::l,hf,t,h=>by
   rcases List.mem_cons.1 h with h | h
   ·subst h;exact hf.head
   ·have h1:=List.rel_of_pairwise_cons hf.1 h;have h2:=form_at hf.tail t h;have h3:coef (x::l) t.1=(if x.1=t.1 then x.2 else 0)+coef l t.1:=rfl;rw[h3,if_neg (by omega),Rat.zero_add,h2]
theorem can_used(e:Ex):canL e.t=(usedI e).map fun v=>(v,coef e.t v):=by
 obtain⟨hf,hc,_⟩:=canL_spec e.t;have h1:usedI e=(canL e.t).map (·.1):=by
  refine rising_ext (usedI_rising e) (List.pairwise_map.2 hf.1) fun v=>?_;rw[usedI_mem,←hc v];constructor
  ·intro h;obtain⟨t,ht,h2⟩:=coef_ne_mem h;exact List.mem_map.2 ⟨t,ht,h2⟩
  ·intro h;obtain⟨t,ht,rfl⟩:=List.mem_map.1 h;rw[form_at hf t ht];exact hf.2 t ht
 rw[h1,List.map_map]
 conv=>lhs;rw[←List.map_id (canL e.t)]
 refine List.map_congr_left fun t ht=>?_;simp only[Function.comp,id];rw[←hc t.1,form_at hf t ht]
theorem canA_used(a:At){c:Rat}(hc:c≠0):(canA a c).e.t=(usedI a.e).map fun v=>(v,byQ a.op c*coef a.e.t v):=by
 rw[canA_t a hc,can_used,List.map_map];rfl
theorem can_var{l:List Tm}{t:Tm}(h:t∈canL l):∃ u∈l,u.1=t.1:=by
 obtain⟨hf,hc,_⟩:=canL_spec l;refine coef_ne_mem ?_;rw[←hc t.1,form_at hf t h];exact hf.2 t h
theorem atN_var(a:AN)(ha:okEN a.e):∀ t∈(atN a).e.t,-9223372036854775808≤t.1∧t.1≤9223372036854775807:=fun t ht=>by
 obtain⟨x,hx,rfl⟩:=List.mem_map.1 (show t∈(a.e.t.take 12).map tmN from ht);exact(ha.t x (List.mem_of_mem_take hx)).2
theorem kv_none{a:At}(hl:leadQ a.e=none):keyL (-(if sayB a.op a.e.c then 1 else 2)) enK0 []=(keyV a).map D.v:=by
 rw[keyV_none hl,truth_none hl];rfl
theorem kv_some{a:At}{v:Int}{c:Rat}(hl:leadQ a.e=some (v,c)):keyL (canA a c).op (enK (canA a c).e.c) (keyT (canA a c).e.t)=(keyV a).map D.v:=by
 rw[keyV_some hl];rfl
theorem byL_len{n k:Nat}(h:n<2^k):(byL n).length≤k:=by
 unfold byL;rw[List.length_map];exact digs_len (B:=256) (by omega) (Nat.lt_of_lt_of_le h (Nat.pow_le_pow_left (by omega) _))
theorem keyV_form(a:At):∃ o n x y s,keyV a=kvV o n x y s:=by
 unfold keyV;split
 ·exact⟨_,_,_,_,_,rfl⟩
 ·exact⟨_,_,_,_,_,rfl⟩
end Go.Proofs.YtbbpecfapohlaaaGreatDoor
namespace Go.Proofs.YtbbpecfapohlaaaGreatDoor
open Go.RowKit
attribute [local irreducible] AC Do St
structure OkAt(a:At):Prop where
 sm:Sm 12 6682 a.e
 vr:∀ t∈a.e.t,-9223372036854775808≤t.1∧t.1≤9223372036854775807
 can:∀ v c l,canL a.e.t=(v,c)::l→c≠0→Sm 12 6682 (canA a c).e∧Bd 6682 c
theorem OkAt.canV{a:At}(ha:OkAt a){v:Int}{c:Rat}{l:List Tm}(_h0:canL a.e.t=(v,c)::l)(hne:c≠0):∀ t∈(canA a c).e.t,-9223372036854775808≤t.1∧t.1≤9223372036854775807:=fun t ht=>by
 rw[canA_t _ hne]at ht;obtain⟨x,hx,rfl⟩:=List.mem_map.1 ht;obtain⟨u,hu,h2⟩:=can_var hx;have:=ha.vr u hu;show-9223372036854775808≤x.1∧x.1≤9223372036854775807;rw[←h2];exact this
theorem OkAt.canP{a:At}(ha:OkAt a)(ho:okOp a.op){v:Int}{c:Rat}{l:List Tm}(h0:canL a.e.t=(v,c)::l)(hne:c≠0):Fn Tryz.prog 117 [.g (enA a)] [.g (enA (canA a c)),.d (.v (.int .i64 0)),.d (.v (.int .i64 0))]:=
 canOpen a 6682 87000 ho ha.sm.c ha.sm.t (by have:=ha.sm.n;omega) (by have:=ha.sm.n;omega) h0 hne
theorem OkAt.law(a:AN)(ha:okEN a.e):OkAt (atN a):=by
 refine⟨(atN_sm a ha).mono (Nat.le_refl _) (by omega),atN_var a ha,fun v c l h0 hne=>⟨canA_sm (atN a) (atN_sm a ha) (by omega:(12+1)*(256+1)≤3341) h0 hne,?_⟩⟩;have h:=canL_bd (atN_sm a ha).t (v,c) (by rw[h0];simp);have:=(atN_sm a ha).n;exact h.mono (by omega)
theorem OkAt.form{a:At}(ha:OkAt a){v:Int}{c:Rat}{l:List Tm}(h0:canL a.e.t=(v,c)::l)(hne:c≠0):OkAt (canA a c):=by
 obtain⟨e1,e2,e3⟩:=canA_again a hne h0;refine⟨(ha.can v c l h0 hne).1,ha.canV h0 hne,fun v' c' l' h1 _=>?_⟩;rw[e2,e1]at h1;simp only[List.cons.injEq,Prod.mk.injEq]at h1;obtain⟨⟨rfl,rfl⟩,_⟩:=h1;rw[e3];exact⟨(ha.can v c l h0 hne).1,(ha.can v c l h0 hne).1.t (v,byQ a.op c*c) (by rw[e1];simp)⟩
theorem sameT(a b:At)(ha:OkAt a)(hb:OkAt b)(r:Bool)(hr:r=true↔SameP a b):Fn Tryz.prog 96 [.g (enAQ a),.g (enAQ b)] [.d (.v (.bool r))]:=by
 rcases lead_can a.e with ⟨hla,h0⟩ | ⟨v,c,l,hla,h0⟩
 ·exact sameShut _ _ ha.sm hb.sm (by omega) (.inl hla) r hr
 rcases lead_can b.e with ⟨hlb,h1⟩ | ⟨w,d,m,hlb,h1⟩
 ·exact sameShut _ _ ha.sm hb.sm (by omega) (.inr hlb) r hr
 ·exact sameOpen _ _ ha.sm hb.sm (by omega) hla hlb (ha.can v c l h0 (leadQ_ne hla).1).2 (hb.can w d m h1 (leadQ_ne hlb).1).2 r hr
theorem keyGoodT(a:At)(ha:OkAt a)(ho:okOp a.op):FnK Tryz.prog 169 Tab [.g (enA a)] [.g ((keyV a).map D.v),.d (.v (.int .i64 0))]∧KV (keyV a):=by
 have hs:=ha.sm;have ho':okOp a.op:=ho;rcases lead_can a.e with ⟨hl,h0⟩ | ⟨v,c,l,hl,h0⟩
 ·refine⟨?_,?_⟩
  ·have:=keyOfNum a 6682 ho' hs.t (by have:=hs.n;omega) h0;rw[kv_none hl]at this;exact this.k
  ·rw[keyV_none hl];refine kvV_KV _ _ _ _ _ ?_ (by simp) (by simp) (by simp);rcases truth_shut hl with h | h<;>rw[h]<;>omega
 ·have hne:=(leadQ_ne hl).1;have hsm:=(ha.can v c l h0 hne).1;have hcan:=ha.canP ho' h0 hne;have hvar:=ha.canV h0 hne;refine⟨?_,?_⟩
  ·have:=keyOfOpen a (canA a c) 6682 hcan (by omega) (by have:=hsm.n;omega) hsm.t hsm.c hvar;rw[kv_some hl]at this;exact this
  ·rw[keyV_some hl];have hlen:∀ l:List Tm,(∀t∈l,Bd 6682 t.2∧ -9223372036854775808≤t.1∧t.1≤9223372036854775807)→(keyT l).length≤l.length*1000000:=fun l=>by
    induction l with
    | nil=>intro _;simp[keyT]
    | cons t l ih=>
      intro h;obtain⟨h1,h2,h3⟩:=h t (by simp);have e1:=Lib.itoa_length_le t.1 h2 h3;have e2:=printL_len t.2;have e3:=limbs_len_bd h1.1;have e4:=limbs_len_bd h1.2;have:=ih fun t ht=>h t (by simp[ht]);rw[keyT_cons,List.length_append,List.length_append,List.length_cons,List.length_cons,List.length_cons];omega
   refine kvV_KV _ _ _ _ _ ?_ (Nat.le_trans (byL_len hsm.c.1) (by omega)) (Nat.le_trans (byL_len hsm.c.2) (by omega)) ?_
   ·unfold okOp at ho';omega
   ·have:=hlen _ fun t ht=>⟨hsm.t t ht,hvar t ht⟩
    have:=hsm.n;omega
theorem keyBadT(a:At)(ho:¬ okOp a.op):FnK Tryz.prog 169 Tab [.g (enA a)] [.g ((kvV 0 false [] [] []).map D.v),.d (.v (.int .i64 4))]:=(keyOfNo a ho).k
noncomputable def kyT (a:At):Option Lit:=by
 classical
 exact if okOp a.op then some (kLit (keyV a))else none
theorem kyT_yes{a:At}(h:okOp a.op):kyT a=some (kLit (keyV a)):=by unfold kyT;rw[if_pos h]
theorem kyT_no{a:At}(h:¬ okOp a.op):kyT a=none:=by unfold kyT;rw[if_neg h]
noncomputable def fsT (ls:List At)(k:Lit):Nat:=by
 classical
 exact ls.findIdx fun a=>decide (kyT a=some k)
noncomputable def plT (ls:List At)(a:At):Int:=match kyT a with
 | none=> -1
 | some k=>(fsT ls k:Int)
theorem fsT_at{ls:List At}{i:Nat}{k:Lit}(h:i<ls.length)(h1:kyT ls[i]=some k)(h2:∀ a∈ls.take i,kyT a≠some k):fsT ls k=i:=by
 classical
 unfold fsT;have e:ls=ls.take i++ls[i]::ls.drop (i+1):=by rw[←List.drop_eq_getElem_cons h,List.take_append_drop]
 generalize ls[i]=x at h1 e;have hl:(ls.take i).length=i:=by rw[List.length_take];omega
 rw[e,List.findIdx_append,if_neg,List.findIdx_cons,hl]
 ·simp[h1]
 ·rw[List.findIdx_lt_length];rintro ⟨a,ha,h3⟩;exact h2 a ha (by simpa using h3)
structure MPT(ls:List At)(i:Nat)(M:DataW Unit):Prop where
 isMap:Go.Maps.IsMap M
 hit:∀ k,WideAt.IsKeyLit k→(∃a∈ls.take i,kyT a=some k)→Go.Maps.has M k=true∧∀ z,M.atKey k z= .lit (.int .i64 (fsT ls k:Int))
 miss:∀ k,(∀a∈ls.take i,kyT a≠some k)→Go.Maps.has M k=false∧∀ z,M.atKey k z=z
theorem MPT.keep{ls:List At}{i:Nat}{M:DataW Unit}(h:MPT ls i M)(hi:i<ls.length)(hk:kyT ls[i]=none∨∃ a∈ls.take i,kyT a=kyT ls[i]):MPT ls (i+1) M:=by
 have ht:=List.take_succ_eq_append_getElem hi;refine⟨h.isMap,fun k h1 ⟨a,h2,h3⟩=>h.hit k h1 ?_,fun k h1=>h.miss k fun a ha=>h1 a (by rw[ht];exact List.mem_append_left _ ha)⟩;rw[ht]at h2;rcases List.mem_append.1 h2 with h2 | h2
 ·exact⟨a,h2,h3⟩
 ·rw[List.mem_singleton.1 h2]at h3;rcases hk with hk | ⟨b,hb,hk⟩
  ·rw[hk]at h3;cases h3
  ·exact⟨b,hb,hk.trans h3⟩
theorem MPT.new{ls:List At}{i:Nat}{M:DataW Unit}{k:Lit}(h:MPT ls i M)(hi:i<ls.length)(hkl:WideAt.IsKeyLit k)(hk:kyT ls[i]=some k)(hm:∀ a∈ls.take i,kyT a≠some k):MPT ls (i+1) (M.put k (.lit (.int .i64 (i:Int)))):=by
 have ht:=List.take_succ_eq_append_getElem hi;refine⟨h.isMap.put _ _,fun q h1 ⟨a,h2,h3⟩=>?_,fun q h1=>?_⟩
 ·by_cases e:q=k
  ·subst e;rw[fsT_at hi hk hm];exact⟨Go.Maps.has_put_same h.isMap hkl _,Go.Maps.atKey_put_same h.isMap hkl _⟩
  ·rw[ht]at h2;rcases List.mem_append.1 h2 with h2 | h2
   ·obtain⟨g1,g2⟩:=h.hit q h1 ⟨a,h2,h3⟩;exact⟨(Go.Maps.has_put_other e _).trans g1,fun z=>(Go.Maps.atKey_put_other e _ _).trans (g2 z)⟩
   ·rw[List.mem_singleton.1 h2,hk]at h3;exact absurd (Option.some.inj h3).symm e
 ·have e:q≠k:=fun e=>h1 ls[i] (by rw[ht];exact List.mem_append_right _ (List.mem_singleton.2 rfl)) (by rw[hk,e]);obtain⟨g1,g2⟩:=h.miss q fun a ha=>h1 a (by rw[ht];exact List.mem_append_left _ ha);exact⟨(Go.Maps.has_put_other e _).trans g1,fun z=>(Go.Maps.atKey_put_other e _ _).trans (g2 z)⟩
theorem MPT.zero(ls:List At):MPT ls 0 (.map []):=⟨Go.Maps.isMap_empty,fun _ _ ⟨_,h,_⟩=>by simp at h,fun _ _=>⟨rfl,fun _=>rfl⟩⟩
def ivT(v:Int):List D:=[.v (.int .i64 v)]
theorem placesT(ls:List At)(hls:∀ a∈ls,OkAt a)(hl:ls.length≤1000):FnK Tryz.prog 101 Tab [.d (.l (ls.map enA))] [.d (.l ((ls.map (plT ls)).map ivT))]:=by
 have hz:∀ w,(zeroValue 3).run Tryz.prog w= .ok (.int .i64 0) w:=fun w=>by kernel_rfl
 have hT:(Tryz.prog).underlying 256=some (.map 260 3):=by kernel_rfl
 have hE:(Tryz.prog).underlying 3=some (.int .i64):=by kernel_rfl
 refine FnK.of Tryz.func101 rfl (by kernel_rfl) Tryz.ntmps101 Tryz.results101 rfl fun w0 S0 hK0=>?_;refine wk ?_;(first | intro K ms hms hK | intro K hK);refine Chain.mkMap 260 3 rfl rfl rfl rfl fun b=>?_;refine wk ?_;((try (first | intro K ms hms hK | intro K hK));(first | apply Chain.ef | apply Chain.efD);exact rfl;exact rfl;exact Do.makeM (f:=ivT) (0:Int) 0 ls.length rfl rfl rfl rfl rfl rfl (Nat.zero_le _) (by omega);exact rfl;exact rfl);refine wk ?_;refine AC.loop (X:=Nat×Nat×DataW Unit) (fun x=>⟨[(3,.d (.v (.map (some b)))),(4,.r 14 x.1),(15,.d (.l (ls.map enA))),(16,.d (.v (.int .i64 (ls.length:Int)))),(17,.d (.v (.int .i64 (x.1:Int))))],
  [(14,.row x.1 3 1 (((ls.take x.1).map (plT ls)).map ivT)),(11,mapO Tryz.prog 260 3 b x.2.1 x.2.2)]⟩)
  (fun x=>x.1≤ls.length∧x.2.1≤x.1∧MPT ls x.1 x.2.2) (fun x=>ls.length-x.1) (0,0,.map []) ⟨Nat.zero_le _,Nat.zero_le _,MPT.zero ls⟩ ⟨rfl,rfl,rfl,rfl,rfl,trivial⟩ ⟨rfl,rfl,trivial⟩ ?_
 intro ⟨i,n,M⟩ ⟨hi,hn,hM⟩;dsimp only at hi hn hM ⊢;refine wk ?_;refine s1 (fun h1=>?_) (fun h1=>?_)
 ·have hi':i<ls.length:=by omega
  have hget:ls[i]?=some ls[i]:=List.getElem?_eq_getElem hi';have hok:=hls _ (List.getElem_mem hi');have hs:((ls.take (i+1)).map (plT ls)).map ivT=((ls.take i).map (plT ls)).map ivT++[ivT (plT ls ls[i])]:=by
   rw[List.take_succ_eq_append_getElem hi',List.map_append,List.map_append];rfl
  have hkeep:=hM.keep hi';have hnew:=fun k=>hM.new (k:=k) hi';have hfst:=fun k=>fsT_at (k:=k) hi';have hrl:(((ls.take i).map (plT ls)).map ivT).length=i:=by simp;omega
  generalize hQ:((ls.take i).map (plT ls)).map ivT=Q at hs hrl ⊢;generalize ls[i]=a at hget hok hs hkeep hnew hfst;by_cases ho:okOp a.op
  ·obtain⟨k1,v1⟩:=keyGoodT a hok ho;have hky:=kyT_yes ho;have hpl:plT ls a=(fsT ls (kLit (keyV a)):Int):=by unfold plT;rw[hky]
   obtain⟨o1,n1,x1,y1,s1,e1⟩:=keyV_form a;rw[e1]at k1 v1 hky hpl;have hkl:WideAt.IsKeyLit (kLit (kvV o1 n1 x1 y1 s1)):=keyd9.key v1;have v2:keyOf Tryz.prog 260 (.agg (kvV o1 n1 x1 y1 s1).toArray)=some (kLit (kvV o1 n1 x1 y1 s1)):=v1;generalize kLit (kvV o1 n1 x1 y1 s1)=kl at*;refine wk ?_;refine c1 k1 ?_;refine wk ?_;by_cases hex:∃ c∈ls.take i,kyT c=some kl
   ·obtain⟨m1,m2⟩:=hM.hit kl hkl hex;((try (first | intro K ms hms hK | intro K hK));(first | apply Chain.go | apply Chain.goD);exact rfl;exact rfl;exact Loc.lookM (id:=11) (xs:=kvV o1 n1 x1 y1 s1) rfl rfl rfl rfl hT hE hz keyd9 v2 (m2 _) m1);refine wk ?_;((try (first | intro K ms hms hK | intro K hK));(first | apply Chain.go | apply Chain.goD);exact rfl;exact rfl;exact Loc.lookS (id:=11) (xs:=kvV o1 n1 x1 y1 s1) rfl rfl rfl rfl hT hE hz keyd9 v2 (m2 _));refine wk ?_;obtain⟨c,hc1,hc2⟩:=hex;refine⟨(i+1,n,M),⟨by dsimp only;omega,by dsimp only;omega,hkeep (.inr ⟨c,hc1,by rw[hc2,hky]⟩)⟩,by dsimp only;omega,⟨rfl,rfl,rfl,rfl,rfl,trivial⟩,⟨?_,rfl,trivial⟩⟩;dsimp only;rw[hs,hpl];rfl
   ·have hno:∀ c∈ls.take i,kyT c≠some kl:=fun c hc e=>hex ⟨c,hc,e⟩;obtain⟨m1,m2⟩:=hM.miss kl hno;have hnew:=hnew kl hkl hky hno;have hfst:=hfst kl hky hno;have hin:∃ c∈ls.take (i+1),kyT c=some kl:=⟨a,List.mem_iff_getElem?.2 ⟨i,by rw[List.getElem?_take_of_lt (by omega),hget]⟩,hky⟩
    obtain⟨p1,p2⟩:=hnew.hit kl hkl hin;rw[hfst]at p2 hpl;((try (first | intro K ms hms hK | intro K hK));(first | apply Chain.go | apply Chain.goD);exact rfl;exact rfl;exact Loc.lookM (id:=11) (xs:=kvV o1 n1 x1 y1 s1) rfl rfl rfl rfl hT hE hz keyd9 v2 (m2 _) m1);refine wk ?_;((try (first | intro K ms hms hK | intro K hK));(first | apply Chain.st | apply Chain.stD);exact rfl;exact rfl;exact Do.putM (id:=11) (xs:=kvV o1 n1 x1 y1 s1) rfl rfl rfl rfl rfl hT hE keyd9 v2 (by omega) (WalkArith.wf_i64 (by omega)) rfl;exact rfl;exact rfl);refine wk ?_;((try (first | intro K ms hms hK | intro K hK));(first | apply Chain.go | apply Chain.goD);exact rfl;exact rfl;exact Loc.lookS (id:=11) (xs:=kvV o1 n1 x1 y1 s1) rfl rfl rfl rfl hT hE hz keyd9 v2 (p2 _));refine wk ?_;refine⟨(i+1,n+1,M.put kl (.lit (.int .i64 (i:Int)))),⟨by dsimp only;omega,by dsimp only;omega,hnew⟩,by dsimp only;omega,⟨rfl,rfl,rfl,rfl,rfl,trivial⟩,⟨?_,rfl,trivial⟩⟩;dsimp only;rw[hs,hpl];rfl
  ·have k1:=keyBadT a ho;have hky:=kyT_no ho;have hpl:plT ls a= -1:=by unfold plT;rw[hky]
   refine wk ?_;refine c1 k1 ?_;refine wk ?_;refine⟨(i+1,n,M),⟨by dsimp only;omega,by dsimp only;omega,hkeep (.inl hky)⟩,by dsimp only;omega,⟨rfl,rfl,rfl,rfl,rfl,trivial⟩,⟨?_,rfl,trivial⟩⟩;dsimp only;rw[hs,hpl];rfl
 ·obtain rfl:i=ls.length:=by omega
  rw[List.take_length];refine wk ?_;exact⟨.d rfl ⟨_,_,rfl⟩,trivial⟩
theorem same_kyT{a b:At}(ha:OkAt a)(hb:OkAt b)(h1:okOp a.op)(h2:okOp b.op):SameP a b↔kyT a=kyT b:=by
 rw[kyT_yes h1,kyT_yes h2,←keyV_same];exact⟨fun h=>by rw[h],fun h=>(keyGoodT a ha h1).2.inj (keyGoodT b hb h2).2 (Option.some.inj h)⟩
end Go.Proofs.YtbbpecfapohlaaaGreatDoor
namespace Go.Proofs.YtbbpecfapohlaaaGreatDoor
open Go.RowKit
attribute [local irreducible] AC Do St
theorem sgnR_neg{q:Rat}:sgnR q<0↔q<0:=by
 unfold sgnR;have h:=Rat.num_nonneg (q:=q);split
 ·exact⟨fun _=>by have:¬ 0≤q:=fun h2=>absurd (h.2 h2) (by omega);grind,fun _=>by omega⟩
 ·have:0≤q:=h.1 (by omega);split<;>exact⟨fun h=>by omega,fun h=>by grind⟩
theorem sgnR_le{q:Rat}:sgnR q≤0↔q≤0:=by
 by_cases h:q=0
 ·rw[sgnR_zero.2 h,h];simp
 ·have h1:=mt sgnR_zero.1 h;have h2:=sgnR_neg (q:=q);constructor
  ·intro h3;have:=h2.1 (by omega);grind
  ·intro h3;have:=h2.2 (by grind);omega
theorem sayB_1(q:Rat):sayB 1 q=decide (q≤0):=by
 unfold sayB;rw[if_pos rfl];exact decide_eq_decide.2 sgnR_le
theorem okOp_cases{op:Int}(h:okOp op):op=1∨op=2∨op=3:=by unfold okOp at h;omega
theorem evQ_eq(e:Ex)(p:List Rat):evQ e p p.length=e.c+evalT p e.t:=by
 have:∀ n,evQ e p n=e.c+sumTo n (fun i=>coef e.t (i:Int)*p.getD i 0):=by
  intro n
  induction n with
  | zero=>simp only[evQ,sumTo];grind
  | succ n ih=>simp only[evQ,sumTo,ih];grind
 rw[this,eval_coef]
theorem ptN_bd{l:List (Bool×List Nat×List Nat)}(hl:okP l):∀ q∈ptN l,Bd 256 q:=fun q hq=>by
 obtain⟨n,hn,rfl⟩:=List.mem_map.1 hq;exact bdN n (hl n (List.mem_of_mem_take hn))
theorem ptN_len(l:List (Bool×List Nat×List Nat)):(ptN l).length≤6:=by
 unfold ptN;simp;omega
noncomputable def atP (a:At)(p:List Rat):Bool:=sayB a.op (a.e.c+evalT p a.e.t)
theorem evalP{N k M:Nat}(e:Ex)(p:List Rat)(h:Sm N k e)(hp:∀ q∈p,Bd k q)(hl:p.length≤M)(hk:(M+2)*((N+2)*(k+1)+k+1)≤50000000):Fn Tryz.prog 134 [.g (enEQ e),.d (.l (p.map enQ))] [.g (enQ (e.c+evalT p e.t))]:=by
 have:=evalQ e p k h.c h.t hp (Nat.le_trans (Nat.mul_le_mul (by omega) (Nat.add_le_add_right (Nat.add_le_add_right (Nat.mul_le_mul_right _ (by have:=h.n;omega)) _) _)) hk);rwa[evQ_eq]at this
end Go.Proofs.YtbbpecfapohlaaaGreatDoor
namespace Go.Proofs
open Go.Shelf
def Tryz.sortInt_ren:Go.Shelf.Ren:=⟨fun | 6=>173 | 14=>229 | 15=>230 | 20=>260 | 21=>261 | 22=>262 | 23=>263 | 24=>264 | 25=>265 | 26=>266 | 27=>267 | 28=>268 | 29=>269 | 46=>294 | 47=>295 | 48=>296 | 49=>297 | 50=>298 | 57=>314 | n=>n,fun | 0=>0 | 3=>3 | 4=>4 | 5=>5 | 9=>9 | 22=>55 | 24=>3 | 25=>266 | 39=>301 | 45=>348 | 46=>349 | 50=>184 | 53=>225 | 55=>218 | 66=>382 | 70=>386 | 76=>400 | 77=>38 | n=>n,fun | n=>n⟩
theorem Tryz.sortInt:Go.Proofs.SlLaysF.n6 Tryz.prog Tryz.sortInt_ren:={
 mixed:=by kernel_rfl
 f6:=⟨(Tryz.f173).name,by kernel_rfl,Tryz.func173.trans (congrArg some (by kernel_rfl))⟩
 f14:=⟨(Tryz.f229).name,by kernel_rfl,Tryz.func229.trans (congrArg some (by kernel_rfl))⟩
 f15:=Tryz.func230.trans (congrArg some (by kernel_rfl))
 f20:=⟨(Tryz.f260).name,by kernel_rfl,Tryz.func260.trans (congrArg some (by kernel_rfl))⟩
 f21:=⟨(Tryz.f261).name,by kernel_rfl,Tryz.func261.trans (congrArg some (by kernel_rfl))⟩
 f22:=⟨(Tryz.f262).name,by kernel_rfl,Tryz.func262.trans (congrArg some (by kernel_rfl))⟩
 f23:=⟨(Tryz.f263).name,by kernel_rfl,Tryz.func263.trans (congrArg some (by kernel_rfl))⟩
 f24:=⟨(Tryz.f264).name,by kernel_rfl,Tryz.func264.trans (congrArg some (by kernel_rfl))⟩
 f25:=⟨(Tryz.f265).name,by kernel_rfl,Tryz.func265.trans (congrArg some (by kernel_rfl))⟩
 f26:=⟨(Tryz.f266).name,by kernel_rfl,Tryz.func266.trans (congrArg some (by kernel_rfl))⟩
 f27:=⟨(Tryz.f267).name,by kernel_rfl,Tryz.func267.trans (congrArg some (by kernel_rfl))⟩
 f28:=Tryz.func268.trans (congrArg some (by kernel_rfl))
 f29:=Tryz.func269.trans (congrArg some (by kernel_rfl))
 f46:=⟨(Tryz.f294).name,by kernel_rfl,Tryz.func294.trans (congrArg some (by kernel_rfl))⟩
 f47:=Tryz.func295.trans (congrArg some (by kernel_rfl))
 f48:=Tryz.func296.trans (congrArg some (by kernel_rfl))
 f49:=⟨(Tryz.f297).name,by kernel_rfl,Tryz.func297.trans (congrArg some (by kernel_rfl))⟩
 f50:=⟨(Tryz.f298).name,by kernel_rfl,Tryz.func298.trans (congrArg some (by kernel_rfl))⟩
 f57:=⟨(Tryz.f314).name,by kernel_rfl,Tryz.func314.trans (congrArg some (by kernel_rfl))⟩
 t0:=Tryz.underlying0
 a0:=Tryz.isAgg0
 z0:=Tryz.sizeOf0
 v0:=Tryz.zeroValue0
 t3:=Tryz.underlying3
 a3:=Tryz.isAgg3
 z3:=Tryz.sizeOf3
 v3:=Tryz.zeroValue3
 t4:=Tryz.underlying4
 a4:=Tryz.isAgg4
 z4:=Tryz.sizeOf4
 v4:=Tryz.zeroValue4
 t5:=Tryz.underlying5
 a5:=Tryz.isAgg5
 z5:=Tryz.sizeOf5
 v5:=Tryz.zeroValue5
 t9:=Tryz.underlying9
 a9:=Tryz.isAgg9
 z9:=Tryz.sizeOf9
 v9:=Tryz.zeroValue9
 t22:=Tryz.underlying55
 a22:=Tryz.isAgg55
 z22:=Tryz.sizeOf55
 v22:=Tryz.zeroValue55
 a24:=Tryz.isAgg3
 z24:=Tryz.sizeOf3
 t25:=Tryz.underlying266
 a25:=Tryz.isAgg266
 z25:=Tryz.sizeOf266
 v25:=Tryz.zeroValue266
 t39:=Tryz.underlying301
 a39:=Tryz.isAgg301
 z39:=Tryz.sizeOf301
 v39:=Tryz.zeroValue301
 t45:=Tryz.underlying348
 a45:=Tryz.isAgg348
 z45:=Tryz.sizeOf348
 v45:=Tryz.zeroValue348
 t46:=Tryz.underlying349
 a46:=Tryz.isAgg349
 z46:=Tryz.sizeOf349
 v46:=Tryz.zeroValue349
 t50:=Tryz.underlying184
 a50:=Tryz.isAgg184
 z50:=Tryz.sizeOf184
 v50:=Tryz.zeroValue184
 t53:=Tryz.underlying225
 a53:=Tryz.isAgg225
 z53:=Tryz.sizeOf225
 v53:=Tryz.zeroValue225
 t55:=Tryz.underlying218
 a55:=Tryz.isAgg218
 z55:=Tryz.sizeOf218
 v55:=Tryz.zeroValue218
 t66:=Tryz.underlying382
 a66:=Tryz.isAgg382
 z66:=Tryz.sizeOf382
 v66:=Tryz.zeroValue382
 t70:=Tryz.underlying386
 a70:=Tryz.isAgg386
 z70:=Tryz.sizeOf386
 v70:=Tryz.zeroValue386
 t76:=Tryz.underlying400
 a76:=Tryz.isAgg400
 z76:=Tryz.sizeOf400
 v76:=Tryz.zeroValue400
 t77:=Tryz.underlying38
 a77:=Tryz.isAgg38
 z77:=Tryz.sizeOf38
 v77:=Tryz.zeroValue38
 }
def Tryz.compInt_ren:Go.Shelf.Ren:=⟨fun | 43=>176 | n=>n,fun | 0=>0 | 3=>3 | 4=>4 | 22=>55 | 23=>3 | n=>n,fun | n=>n⟩
theorem Tryz.compInt:Go.Proofs.SlLaysN.n43 Tryz.prog Tryz.compInt_ren:={
 mixed:=by kernel_rfl
 f43:=⟨(Tryz.f176).name,by kernel_rfl,Tryz.func176.trans (congrArg some (by kernel_rfl))⟩
 t0:=Tryz.underlying0
 a0:=Tryz.isAgg0
 z0:=Tryz.sizeOf0
 v0:=Tryz.zeroValue0
 t3:=Tryz.underlying3
 a3:=Tryz.isAgg3
 z3:=Tryz.sizeOf3
 v3:=Tryz.zeroValue3
 t4:=Tryz.underlying4
 a4:=Tryz.isAgg4
 z4:=Tryz.sizeOf4
 v4:=Tryz.zeroValue4
 t22:=Tryz.underlying55
 a22:=Tryz.isAgg55
 z22:=Tryz.sizeOf55
 v22:=Tryz.zeroValue55
 t23:=Tryz.underlying3
 a23:=Tryz.isAgg3
 z23:=Tryz.sizeOf3
 v23:=Tryz.zeroValue3
 i23:=by kernel_rfl
 }
end Go.Proofs
namespace Go.Proofs.YtbbpecfapohlaaaGreatDoor
open Go.RowKit
def enZ(l:List Int):D:= .l (l.map fun v=>[.v (.int .i64 v)])
theorem enZ_one(m:List Int):∀ c∈m.map (fun v=>[D.v (.int .i64 v)]),c.length=1:=fun c hc=>by
 obtain⟨v,_,rfl⟩:=List.mem_map.1 hc;rfl
end Go.Proofs.YtbbpecfapohlaaaGreatDoor
