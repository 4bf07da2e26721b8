import Derived.Test.YtbbpecfapohlaaaGreatDoorZ0
import Derived.Test.YtbbpecfapohlaaaGreatDoorClW
import Derived.Test.YtbbpecfapohlaaaGreatDoorAtm
set_option maxRecDepth 100000
set_option maxHeartbeats 8000000
namespace Go.Proofs.YtbbpecfapohlaaaGreatDoor
open Go.RowKit
attribute [local irreducible] AC Do St
structure SP where
 r:Int
 b:Int
 a:List At
 c:List (List Int)
def enCl(c:List Int):List D:=[enZ c]
def enSP(p:SP):List D:=[.v (.int .i64 p.r),.v (.int .i64 p.b),.l (p.a.map enA),.l (p.c.map enCl)]
def enSPQ(p:SP):List D:=[.v (.int .i64 p.r),.v (.int .i64 p.b),.l (p.a.map enAQ),.l (p.c.map enCl)]
structure OkSP(p:SP):Prop where
 a:∀ a∈p.a,OkAt a
 an:p.a.length≤40
 cn:p.c.length≤60
 cl:∀ c∈p.c,c.length≤70∧∀ l∈c,inR l
 r:inR p.r
 b:inR p.b
def greatP(p:SP):Prop:=400<p.r∨1000<p.b∨2000<p.a.length∨4000<p.c.length∨∃ c∈p.c,64<c.length
def insA(r:Int)(a:At):Prop:=∀ t∈a.e.t,0≤t.1∧t.1<r
def knoL(b:Int)(n:Nat)(l:Int):Prop:=okLi l∧szI l≤b+n
def canP(a:At):Prop:=okOp a.op∧∃ v c l,canL a.e.t=(v,c)::l∧canA a c=a
def goodA(p:SP):Prop:=∀ i (h:i<p.a.length),plT p.a p.a[i]=i∧insA p.r p.a[i]∧canP p.a[i]
def goodC(p:SP):Prop:=∀ c∈p.c,(∀l∈c,okLi l)∧canI c=c∧∀ l∈c,knoL p.b p.a.length l
noncomputable def chkP (p:SP):Int:=by
 classical
 exact if greatP p then 2 else if p.r<0∨p.b<0 then 4 else if goodA p∧goodC p then 0 else 4
theorem chkP_great{p:SP}(h:greatP p):chkP p=2:=by unfold chkP;rw[if_pos h]
theorem chkP_neg{p:SP}(h:¬ greatP p)(h1:p.r<0∨p.b<0):chkP p=4:=by unfold chkP;rw[if_neg h,if_pos h1]
theorem chkP_ok{p:SP}(h:¬ greatP p)(h1:¬ (p.r<0∨p.b<0))(h2:goodA p∧goodC p):chkP p=0:=by unfold chkP;rw[if_neg h,if_neg h1,if_pos h2]
theorem chkP_no{p:SP}(h:¬ greatP p)(h2:¬ (goodA p∧goodC p)):chkP p=4:=by
 unfold chkP;rw[if_neg h];by_cases h1:p.r<0∨p.b<0
 ·rw[if_pos h1]
 ·rw[if_neg h1,if_neg h2]
theorem chkP_zero{p:SP}(h:chkP p=0):¬ greatP p∧0≤p.r∧0≤p.b∧goodA p∧goodC p:=by
 by_cases h0:greatP p
 ·rw[chkP_great h0]at h;omega
 by_cases h1:p.r<0∨p.b<0
 ·rw[chkP_neg h0 h1]at h;omega
 by_cases h2:goodA p∧goodC p
 ·exact⟨h0,by omega,by omega,h2⟩
 ·rw[chkP_no h0 h2]at h;omega
def oneQ(a:At):Prop:=okOp a.op∧truthI a=0∧Form a.e.t∧∃ v c,leadQ a.e=some (v,c)∧byQ a.op c=1
def goodAQ(p:SP):Prop:=∀ i (h:i<p.a.length),oneQ p.a[i]∧insA p.r p.a[i]∧∀ j (hj:j<i),¬SameP (p.a[j]'(by omega)) p.a[i]
theorem can_lead{a:At}{v:Int}{c:Rat}{l:List Tm}(h:canL a.e.t=(v,c)::l):leadQ a.e=some (v,c)∧c≠0:=by
 rcases lead_can a.e with ⟨_,h0⟩ | ⟨v',c',l',h1,h0⟩
 ·rw[h0]at h;cases h
 ·rw[h0]at h;simp only[List.cons.injEq,Prod.mk.injEq]at h;obtain⟨⟨rfl,rfl⟩,_⟩:=h;exact⟨h1,(leadQ_ne h1).1⟩
theorem canP_one(a:At):canP a↔oneQ a:=by
 constructor
 ·rintro ⟨ho,v,c,l,h,e⟩;obtain⟨hl,hc⟩:=can_lead h;have hf:Form a.e.t:=by
   have:=(canA_means a hc).1;rwa[e]at this
  refine⟨ho,truth_some hl,hf,v,c,hl,?_⟩;have h1:=(canA_again a hc h).1;rw[e,←canL_form hf,h]at h1;simp only[List.cons.injEq,Prod.mk.injEq,true_and]at h1;have h2:=h1.1;have h3:byQ a.op c*c=1*c:=by rw[←h2,Rat.one_mul]
  have h4:byQ a.op c*c*c⁻¹ =1*c*c⁻¹ :=by rw[h3]
  rwa[Rat.mul_assoc,Rat.mul_assoc,Rat.mul_inv_cancel c hc,Rat.mul_one,Rat.mul_one]at h4
 ·rintro ⟨ho,_,hf,v,c,hl,hb⟩;rcases lead_can a.e with ⟨h1,_⟩ | ⟨v',c',l',h1,h0⟩
  ·rw[h1]at hl;cases hl
  ·rw[h1]at hl;simp only[Option.some.injEq,Prod.mk.injEq]at hl;obtain⟨rfl,rfl⟩:=hl;refine⟨ho,v',c',l',h0,?_⟩;have hc:=(leadQ_ne h1).1;have e1:(canA a c').e.t=a.e.t:=by
    rw[canA_t a hc,canL_form hf,hb]
    conv=>rhs;rw[←List.map_id a.e.t]
    refine List.map_congr_left fun t _=>?_;show (t.1,1*t.2)=t;rw[Rat.one_mul]
   have e2:(canA a c').e.c=a.e.c:=by rw[canA_c,hb,Rat.one_mul]
   have e3:(canA a c').op=a.op:=rfl;generalize canA a c'=b at e1 e2 e3;obtain⟨⟨t,k⟩,o⟩:=a;obtain⟨⟨t',k'⟩,o'⟩:=b;dsimp only at e1 e2 e3;rw[e1,e2,e3]
theorem fsT_before{ls:List At}{k:Lit}{i:Nat}(h:fsT ls k=i){j:Nat}(hj:j<i)(hl:j<ls.length):kyT ls[j]≠some k:=by
 classical
 unfold fsT at h;subst h;have:=List.not_of_lt_findIdx hj;simpa using this
theorem goodA_iff{p:SP}(hp:OkSP p):goodA p↔goodAQ p:=by
 constructor
 ·intro h i hi;obtain⟨h1,h2,h3⟩:=h i hi;refine⟨(canP_one _).1 h3,h2,fun j hj hs=>?_⟩;have hj':j<p.a.length:=by omega
  have ho:=h3.1;have ho':=(h j hj').2.2.1;have e:=(same_kyT (hp.a _ (List.getElem_mem hj')) (hp.a _ (List.getElem_mem hi)) ho' ho).1 hs;rw[kyT_yes ho]at e;unfold plT at h1;rw[kyT_yes ho]at h1;exact fsT_before (by dsimp only at h1;omega) hj hj' e
 ·intro h i hi;obtain⟨h1,h2,h3⟩:=h i hi;have h1':=(canP_one _).2 h1;refine⟨?_,h2,h1'⟩;have ho:=h1.1;unfold plT;rw[kyT_yes ho];dsimp only;rw[fsT_at hi (kyT_yes ho) fun a ha=>?_];obtain⟨j,hj,rfl⟩:=List.getElem_of_mem ha;rw[List.getElem_take];rw[List.length_take]at hj;have hj':j<p.a.length:=by omega
  have ho':=(h j hj').1.1;intro e;refine h3 j (by omega) ((same_kyT (hp.a _ (List.getElem_mem hj')) (hp.a _ (List.getElem_mem hi)) ho' ho).2 ?_);rw[e,kyT_yes ho]
end Go.Proofs.YtbbpecfapohlaaaGreatDoor
namespace Go.Proofs.YtbbpecfapohlaaaGreatDoor
open Go.RowKit
attribute [local irreducible] AC Do St
structure PN where
 r:Int
 b:Int
 a:List AN
 c:List (List Int)
def enPN(p:PN):List D:=[.v (.int .i64 p.r),.v (.int .i64 p.b),.l (p.a.map enAN),.l (p.c.map enCl)]
structure okPN(p:PN):Prop where
 a:∀ a∈p.a,okEN a.e
 an:p.a.length≤9223372036854775807
 cn:p.c.length≤9223372036854775807
 cl:∀ c∈p.c,∀l∈c,inR l
 r:inR p.r
 b:inR p.b
def spN(p:PN):SP:=⟨p.r,p.b,(p.a.take 40).map atN,(p.c.take 60).map (·.take 70)⟩
theorem spN_ok{p:PN}(h:okPN p):OkSP (spN p):=by
 refine⟨fun a ha=>?_,?_,?_,fun c hc=>?_,h.r,h.b⟩
 ·obtain⟨x,hx,rfl⟩:=List.mem_map.1 ha;exact OkAt.law x (h.a x (List.mem_of_mem_take hx))
 ·show ((p.a.take 40).map atN).length≤40;rw[List.length_map,List.length_take];omega
 ·show ((p.c.take 60).map (·.take 70)).length≤60;rw[List.length_map,List.length_take];omega
 ·obtain⟨x,hx,rfl⟩:=List.mem_map.1 hc;exact⟨by rw[List.length_take];omega,fun l hl=>h.cl x (List.mem_of_mem_take hx) l (List.mem_of_mem_take hl)⟩
theorem zI_len1(l:List Int):∀ c∈l.map zI,c.length=1:=fun c hc=>by
 obtain⟨v,_,rfl⟩:=List.mem_map.1 hc;rfl
theorem of14(p:PN)(hp:okPN p):Fn Tryz.prog 15 [.g (enPN p)] [.g (enSP (spN p))]:=by
 have hok:=hp.a;have han:=hp.an;have hcn:=hp.cn;clear hp;have hla:(p.a.map enAN).length=p.a.length:=List.length_map ..;have hlc:(p.c.map enCl).length=p.c.length:=List.length_map ..;refine Fn.of Tryz.func15 rfl (by kernel_rfl) Tryz.ntmps15 Tryz.results15 rfl fun w0 S0=>?_;refine wk ?_;have hA0:∀ i,(i=p.a.length∨i=40)→i≤40→(p.a.take i).map atN=(p.a.take 40).map atN:=fun i h hi=>by
  rcases h with h | h
  ·rw[h,List.take_of_length_le (Nat.le_refl _),List.take_of_length_le (by omega)]
  ·rw[h]
 have hC0:∀ i,(i=p.c.length∨i=60)→i≤60→(p.c.take i).map (·.take 70)=(p.c.take 60).map (·.take 70):=fun i h hi=>by
  rcases h with h | h
  ·rw[h,List.take_of_length_le (Nat.le_refl _),List.take_of_length_le (by omega)]
  ·rw[h]
 have hAS:spN p=⟨p.r,p.b,(p.a.take 40).map atN,(p.c.take 60).map (·.take 70)⟩:=rfl;generalize (p.a.take 40).map atN=A at hA0 hAS;generalize (p.c.take 60).map (·.take 70)=B at hC0 hAS;rw[hAS];clear hAS;refine AC.rowBox 3 2 63 108 5 rfl rfl rfl ?_;refine AC.mono (Q':=fun e σ'=>e= .exit 0∧∃ g,subEnv σ'.env [(1,.p 1 0),(2,.p 2 0),(3,.p 3 0)]∧subObj σ'.objs [(1,.box 25 ((enPN p).map .d)),(2,.box 29 [.d (.v (.int .i64 0)),.d (.v (.int .i64 0)),.d .n,.d .n]),(3,.box 29 [.d (.v (.int .i64 p.r)),.d (.v (.int .i64 p.b)),.r 63 g,.d .n]),(63,.row g 108 5 (A.map enA))]) ?_ ?_
 ·refine AC.loop (X:=Nat) (fun i=>⟨[(1,.p 1 0),(2,.p 2 0),(3,.p 3 0),(4,.d (.v (.int .i64 (i:Int))))],[(1,.box 25 ((enPN p).map .d)),(2,.box 29 [.d (.v (.int .i64 0)),.d (.v (.int .i64 0)),.d .n,.d .n]),(3,.box 29 [.d (.v (.int .i64 p.r)),.d (.v (.int .i64 p.b)),.r 63 i,.d .n]),(63,.row i 108 5 (((p.a.take i).map atN).map enA))]⟩) (fun i=>i≤p.a.length∧i≤40) (fun i=>40-i) 0 ⟨Nat.zero_le _,Nat.zero_le _⟩ ⟨rfl,rfl,rfl,rfl,trivial⟩ ⟨rfl,rfl,rfl,rfl,trivial⟩ ?_;intro i ⟨hi,hi40⟩;dsimp only at hi hi40 ⊢;by_cases h1:i<p.a.length
  ·by_cases h2:i<40
   ·have hx:=List.getElem?_eq_getElem h1;have ho:=hok _ (List.getElem_mem h1);have hts:((p.a.take (i+1)).map atN).map enA=((p.a.take i).map atN).map enA++[enA (atN p.a[i])]:=by
     rw[List.take_succ_eq_append_getElem h1,List.map_append,List.map_append];rfl
    have hml:(((p.a.take i).map atN).map enA).length=i:=by simp;omega
    generalize p.a[i]=x at hx ho hts;have hof:=ofA x ho;refine wa ?_;refine⟨i+1,⟨h1,h2⟩,by omega,⟨rfl,rfl,rfl,rfl,trivial⟩,⟨rfl,rfl,rfl,by rw[hts];rfl,trivial⟩⟩
   ·rw[hA0 i (by omega) hi40];refine wa ?_;exact⟨rfl,i,⟨rfl,rfl,rfl,trivial⟩,⟨rfl,rfl,rfl,rfl,trivial⟩⟩
  ·rw[hA0 i (by omega) hi40];refine wa ?_;exact⟨rfl,i,⟨rfl,rfl,rfl,trivial⟩,⟨rfl,rfl,rfl,rfl,trivial⟩⟩
 rintro e σ' ⟨rfl,g,q1,q2⟩;refine AC.sub ⟨[(1,.p 1 0),(2,.p 2 0),(3,.p 3 0)],[(1,.box 25 ((enPN p).map .d)),(2,.box 29 [.d (.v (.int .i64 0)),.d (.v (.int .i64 0)),.d .n,.d .n]),(3,.box 29 [.d (.v (.int .i64 p.r)),.d (.v (.int .i64 p.b)),.r 63 g,.d .n]),(63,.row g 108 5 (A.map enA))]⟩ q1 q2 ?_;clear q1 q2;refine wa ?_;refine AC.rowBox 3 3 61 55 1 rfl rfl rfl ?_;refine AC.mono (Q':=fun e σ'=>e= .exit 2∧∃ k,subEnv σ'.env [(1,.p 1 0),(2,.p 2 0),(3,.p 3 0)]∧subObj σ'.objs [(2,.box 29 [.d (.v (.int .i64 0)),.d (.v (.int .i64 0)),.d .n,.d .n]),(3,.box 29 [.d (.v (.int .i64 p.r)),.d (.v (.int .i64 p.b)),.r 63 g,.r 61 k]),(63,.row g 108 5 (A.map enA)),(61,.row k 55 1 (B.map enCl))]) ?_ ?_
 ·refine AC.loop (X:=Nat) (fun i=>⟨[(1,.p 1 0),(2,.p 2 0),(3,.p 3 0),(5,.d (.v (.int .i64 (i:Int))))],[(1,.box 25 ((enPN p).map .d)),(2,.box 29 [.d (.v (.int .i64 0)),.d (.v (.int .i64 0)),.d .n,.d .n]),(3,.box 29 [.d (.v (.int .i64 p.r)),.d (.v (.int .i64 p.b)),.r 63 g,.r 61 i]),(63,.row g 108 5 (A.map enA)),(61,.row i 55 1 (((p.c.take i).map (·.take 70)).map enCl))]⟩) (fun i=>i≤p.c.length∧i≤60) (fun i=>60-i) 0 ⟨Nat.zero_le _,Nat.zero_le _⟩ ⟨rfl,rfl,rfl,rfl,trivial⟩ ⟨rfl,rfl,rfl,rfl,rfl,trivial⟩ ?_;intro i ⟨hi,hi60⟩;dsimp only at hi hi60 ⊢;by_cases h1:i<p.c.length
  ·by_cases h2:i<60
   ·have hx:=List.getElem?_eq_getElem h1;have hts:((p.c.take (i+1)).map (·.take 70)).map enCl=((p.c.take i).map (·.take 70)).map enCl++[enCl (p.c[i].take 70)]:=by
     rw[List.take_succ_eq_append_getElem h1,List.map_append,List.map_append];rfl
    have hml:(((p.c.take i).map (·.take 70)).map enCl).length=i:=by simp;omega
    generalize p.c[i]=x at hx hts;have hlx:(x.map zI).length=x.length:=List.length_map ..;by_cases h3:70<x.length
    ·refine wa ?_;((try (first | intro K ms hms hK | intro K hK));(first | apply Chain.go | apply Chain.goD);exact rfl;exact rfl;exact Loc.partM (f:=zI) (ts:=x) 70 rfl rfl rfl rfl (by omega));refine wa ?_;((try (first | intro K ms hms hK | intro K hK));(first | apply Chain.ef | apply Chain.efD);exact rfl;exact rfl;exact Do.appendF rfl rfl rfl rfl rfl (zI_len1 (x.take 70)) (by simp;omega);exact rfl;exact rfl);refine wa ?_;exact⟨i+1,⟨h1,h2⟩,by omega,⟨rfl,rfl,rfl,rfl,trivial⟩,⟨rfl,rfl,rfl,rfl,by rw[hts];rfl,trivial⟩⟩
    ·have hc:x.take 70=x:=List.take_of_length_le (by omega);rw[hc]at hts;refine wa ?_;((try (first | intro K ms hms hK | intro K hK));(first | apply Chain.ef | apply Chain.efD);exact rfl;exact rfl;exact Do.appendF rfl rfl rfl rfl rfl (zI_len1 x) (by simp;omega);exact rfl;exact rfl);refine wa ?_;exact⟨i+1,⟨h1,h2⟩,by omega,⟨rfl,rfl,rfl,rfl,trivial⟩,⟨rfl,rfl,rfl,rfl,by rw[hts];rfl,trivial⟩⟩
   ·rw[hC0 i (by omega) hi60];refine wa ?_;exact⟨rfl,i,⟨rfl,rfl,rfl,trivial⟩,⟨rfl,rfl,rfl,rfl,trivial⟩⟩
  ·rw[hC0 i (by omega) hi60];refine wa ?_;exact⟨rfl,i,⟨rfl,rfl,rfl,trivial⟩,⟨rfl,rfl,rfl,rfl,trivial⟩⟩
 rintro e σ' ⟨rfl,k,q1,q2⟩;refine AC.sub ⟨[(1,.p 1 0),(2,.p 2 0),(3,.p 3 0)],[(2,.box 29 [.d (.v (.int .i64 0)),.d (.v (.int .i64 0)),.d .n,.d .n]),(3,.box 29 [.d (.v (.int .i64 p.r)),.d (.v (.int .i64 p.b)),.r 63 g,.r 61 k]),(63,.row g 108 5 (A.map enA)),(61,.row k 55 1 (B.map enCl))]⟩ q1 q2 ?_;clear q1 q2;refine wk ?_;(first | intro K ms hms hK | intro K hK | skip);refine Chain.frzBox 3 2 rfl rfl rfl ?_;refine Chain.frzBox 3 3 rfl rfl rfl ?_;refine wk ?_;exact⟨.cn rfl rfl inferInstance rfl ⟨.inl rfl,.inl rfl,.inl rfl,.inl rfl,trivial⟩,trivial⟩
end Go.Proofs.YtbbpecfapohlaaaGreatDoor
namespace Go.Proofs.YtbbpecfapohlaaaGreatDoor
open Go.RowKit
attribute [local irreducible] AC Do St
theorem map_snocA{α β:Type}(f:α→β){l:List α}{j:Nat}(h:j<l.length):(l.take (j+1)).map f=(l.take j).map f++[f l[j]]:=by
 rw[List.take_succ_eq_append_getElem h,List.map_append];rfl
theorem list09{k:Nat}(l:List At)(hk:k≤10000000)(hl:∀ a∈l,Bd k a.e.c∧(∀t∈a.e.t,Bd k t.2)∧a.e.t.length≤1000000)(hlen:l.length≤1000000):Fn Tryz.prog 68 [.d (.l (l.map enA))] [.d (.l (l.map enAQ))]:=by
 have hml:(l.map enA).length=l.length:=List.length_map ..;refine Fn.of Tryz.func68 rfl (by kernel_rfl) Tryz.ntmps68 Tryz.results68 rfl fun w0 S0=>?_;refine wk ?_;refine AC.loop (X:=Nat) (fun j=>⟨[(3,.r 6 j),(7,.d (.l (l.map enA))),(8,.d (.v (.int .i64 (l.length:Int)))),(9,.d (.v (.int .i64 (j:Int))))],[(6,.row j 142 5 ((l.take j).map enAQ))]⟩) (fun j=>j≤l.length) (fun j=>l.length-j) 0 (Nat.zero_le _) ⟨rfl,rfl,rfl,rfl,trivial⟩ ⟨rfl,trivial⟩ ?_;intro j hj;dsimp only at hj ⊢;refine wk ?_;refine s1 (fun g1=>?_) (fun g1=>?_)
 ·have hj1:j<l.length:=by omega
  have hg:l[j]?=some l[j]:=List.getElem?_eq_getElem hj1;obtain⟨q1,q2,q3⟩:=hl _ (List.getElem_mem hj1);have hts:(l.take (j+1)).map enAQ=(l.take j).map enAQ++[enAQ l[j]]:=map_snocA enAQ hj1;generalize l[j]=a at hg q1 q2 q3 hts;refine wk ?_;refine c1 (toldA a k hk q1 q2 q3) ?_;refine wk ?_;exact⟨j+1,hj1,by omega,⟨rfl,rfl,rfl,rfl,trivial⟩,⟨by rw[hts];rfl,trivial⟩⟩
 ·obtain rfl:j=l.length:=by omega
  rw[List.take_length];(first | intro K ms hms hK | intro K hK | skip);refine Chain.frzVar 3 rfl rfl ?_;refine wk ?_;exact⟨.d rfl (.inl rfl),trivial⟩
end Go.Proofs.YtbbpecfapohlaaaGreatDoor
