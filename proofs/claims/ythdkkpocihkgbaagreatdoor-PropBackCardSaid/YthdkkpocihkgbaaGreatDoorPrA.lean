import Derived.Test.YthdkkpocihkgbaaGreatDoorK3
import Derived.Test.YthdkkpocihkgbaaGreatDoorTy
set_option maxRecDepth 100000
set_option maxHeartbeats 4000000
namespace Go.Proofs.YthdkkpocihkgbaaGreatDoor
open Go.RowKit
attribute [local irreducible] AC Do St
inductive FT where
 | mk (k a:Int) (s:List FT)
def FT.k:FT→Int
 | .mk k _ _=>k
def FT.a:FT→Int
 | .mk _ a _=>a
def FT.s:FT→List FT
 | .mk _ _ s=>s
mutual
def subD:FT→List (List D)
 | .mk _ _ s=>subDs s
def subDs:List FT→List (List D)
 | []=>[]
 | f::r=>[.v (.int .i64 f.k),.v (.int .i64 f.a),.l (subD f)]::subDs r
end
def enF(f:FT):List D:=[.v (.int .i64 f.k),.v (.int .i64 f.a),.l (subD f)]
theorem subDs_map:∀ s:List FT,subDs s=s.map enF
 | []=>rfl
 | f::r=>by rw[subDs,subDs_map r];rfl
theorem enF_mk(k a:Int)(s:List FT):enF (.mk k a s)=[.v (.int .i64 k),.v (.int .i64 a),.l (s.map enF)]:=by
 unfold enF;rw[subD,subDs_map];rfl
noncomputable def szT (f:FT):Nat:=SizeOf.sizeOf f
theorem FT.lt{k a:Int}{s:List FT}{f:FT}(h:f∈s):szT f<szT (FT.mk k a s):=by
 have:=List.sizeOf_lt_of_mem h;unfold szT;simp only[FT.mk.sizeOf_spec];omega
mutual
def okT:FT→Prop
 | .mk _ _ s=>s.length≤9223372036854775807∧okTs s
def okTs:List FT→Prop
 | []=>True
 | f::r=>okT f∧okTs r
end
theorem okTs_mem:∀ {s:List FT},okTs s→∀ g∈s,okT g
 | [],_,g,hg=>nomatch hg
 | f::r,h,g,hg=>by
   rw[okTs]at h;rcases List.mem_cons.1 hg with rfl | hg
   ·exact h.1
   ·exact okTs_mem h.2 g hg
theorem okT_mk{k a:Int}{s:List FT}(h:okT (.mk k a s)):s.length≤9223372036854775807∧∀ g∈s,okT g:=by
 rw[okT]at h;exact⟨h.1,okTs_mem h.2⟩
mutual
def cntT:FT→Int→Nat→Int
 | .mk _ _ s,n,d=>if 200<d then 20001 else cntTs s (n+1) d
def cntTs:List FT→Int→Nat→Int
 | [],n,_=>n
 | f::r,n,d=>if 20000<n then n else cntTs r (cntT f n (d+1)) d
end
theorem cntTs_big{s:List FT}{n:Int}{d:Nat}(h:20000<n):cntTs s n d=n:=by
 cases s with
 | nil=>rfl
 | cons f r=>rw[cntTs,if_pos h]
mutual
theorem cntT_rng:∀ (f:FT) (n:Int) (d:Nat),0≤n→n≤20000→0≤cntT f n d∧cntT f n d≤20001
 | .mk _ _ s,n,d,h0,h1=>by
   rw[cntT];split
   ·omega
   ·exact cntTs_rng s (n+1) d (by omega) (by omega)
theorem cntTs_rng:∀ (s:List FT) (n:Int) (d:Nat),0≤n→n≤20001→0≤cntTs s n d∧cntTs s n d≤20001
 | [],n,d,h0,h1=>by rw[cntTs];omega
 | f::r,n,d,h0,h1=>by
   rw[cntTs];split
   ·omega
   ·have:=cntT_rng f n (d+1) h0 (by omega);exact cntTs_rng r _ d this.1 this.2
end
theorem countT:∀ (m:Nat) (f:FT),szT f<m→okT f→∀ (n:Int) (d:Nat),0≤n→n≤20000→d≤201→Fn Tryz.prog 132 [.g (enF f),.d (.v (.int .i64 n)),.d (.v (.int .i64 (d:Int)))] [.d (.v (.int .i64 (cntT f n d)))]:=by
 intro m
 induction m with
 | zero=>intro f h;omega
 | succ m ih=>
 intro f hm hok n d h0 h1 hd;obtain⟨k,a,s⟩:=f;obtain⟨hsl,hsg⟩:=okT_mk hok;have hsub:∀ g∈s,szT g<m:=fun g hg=>by have:=FT.lt (k:=k) (a:=a) hg;omega
 rw[enF_mk];rw[cntT];by_cases hbig:200<d
 ·rw[if_pos hbig];refine Fn.of Tryz.func132 rfl (by kernel_rfl) Tryz.ntmps132 Tryz.results132 rfl fun w0 S0=>?_;refine wk ?_;exact⟨.d rfl (.inl rfl),trivial⟩
 rw[if_neg hbig];obtain⟨R,hR⟩:∃ R,cntTs s (n+1) d=R:=⟨_,rfl⟩
 rw[hR];refine Fn.of Tryz.func132 rfl (by kernel_rfl) Tryz.ntmps132 Tryz.results132 rfl fun w0 S0=>?_;refine wk ?_;refine AC.loop (X:=Nat×Int) (fun x=>⟨[(1,.d (.v (.int .i64 x.2))),(2,.d (.v (.int .i64 (d:Int)))),(14,.d (.l (s.map enF))),(15,.d (.v (.int .i64 (s.length:Int)))),(16,.d (.v (.int .i64 (x.1:Int))))],[]⟩) (fun x=>x.1≤s.length∧0≤x.2∧x.2≤20001∧cntTs (s.drop x.1) x.2 d=R) (fun x=>s.length-x.1) (0,n+1) ⟨Nat.zero_le _,by dsimp only;omega,by dsimp only;omega,hR⟩ ⟨rfl,rfl,rfl,rfl,rfl,trivial⟩ trivial ?_;intro ⟨i,c⟩ ⟨hi,hc0,hc1,hgo⟩;dsimp only at hi hc0 hc1 hgo ⊢;refine wk ?_;refine s1 (fun g1=>?_) (fun g1=>?_)
 ·have hi1:i<s.length:=by omega
  have hx:s[i]?=some s[i]:=List.getElem?_eq_getElem hi1;rw[List.drop_eq_getElem_cons hi1,cntTs]at hgo;have hs:=hsub _ (List.getElem_mem hi1);have ho:=hsg _ (List.getElem_mem hi1);generalize s[i]=g at hx hs ho hgo;refine wk ?_;refine s1 (fun g2=>?_) (fun g2=>?_)
  ·rw[if_pos g2]at hgo;subst hgo;refine wk ?_;exact⟨.d rfl (.inl rfl),trivial⟩
  ·rw[if_neg (by omega)]at hgo;have hf:=ih g hs ho c (d+1) hc0 (by omega) (by omega);have hb:=cntT_rng g c (d+1) hc0 (by omega);rw[show ((d+1:Nat):Int)=(d:Int)+1 from by omega]at hf;refine wk ?_;refine c1 hf ?_;refine wk ?_;exact⟨(i+1,cntT g c (d+1)),⟨hi1,hb.1,hb.2,hgo⟩,by dsimp only;omega,⟨rfl,rfl,rfl,rfl,rfl,trivial⟩,trivial⟩
 ·rw[List.drop_of_length_le (by omega),cntTs]at hgo;subst hgo;refine wk ?_;exact⟨.d rfl (.inl rfl),trivial⟩
mutual
def shT:FT→Int→Bool
 | .mk k a s,n=>
   if k=1 then !(decide (a<0)||decide (n≤a))&&s.isEmpty
   else if k=5∨k=6 then s.isEmpty
   else if k=2 then decide (s.length=1)&&shTs s n
   else if k=3∨k=4 then shTs s n else false
def shTs:List FT→Int→Bool
 | [],_=>true
 | f::r,n=>shT f n&&shTs r n
end
theorem shTs_all:∀ (s:List FT) (n:Int),shTs s n=s.all fun f=>shT f n
 | [],_=>rfl
 | f::r,n=>by rw[shTs,shTs_all r n];rfl
theorem isE{α:Type}(s:List α):s.isEmpty=decide (s.length=0):=by cases s<;>simp
theorem shapedT:∀ (m:Nat) (f:FT),szT f<m→okT f→∀ (n:Int),Fn Tryz.prog 133 [.g (enF f),.d (.v (.int .i64 n))] [.d (.v (.bool (shT f n)))]:=by
 intro m
 induction m with
 | zero=>intro f h;omega
 | succ m ih=>
 intro f hm hok n;obtain⟨k,a,s⟩:=f;obtain⟨hsl,hsg⟩:=okT_mk hok;have hsub:∀ g∈s,szT g<m:=fun g hg=>by have:=FT.lt (k:=k) (a:=a) hg;omega
 obtain⟨R,hR⟩:∃ R,shT (.mk k a s) n=R:=⟨_,rfl⟩
 rw[hR,enF_mk];rw[shT,isE s]at hR;by_cases k1:k=1
 ·rw[if_pos k1]at hR;by_cases a0:a<0
  ·rw[decide_eq_true a0,Bool.true_or,Bool.not_true,Bool.false_and]at hR;subst hR;refine Fn.of Tryz.func133 rfl (by kernel_rfl) Tryz.ntmps133 Tryz.results133 rfl fun w0 S0=>?_;refine wk ?_;exact⟨.d rfl (.inl rfl),trivial⟩
  by_cases an:n≤a
  ·rw[decide_eq_true an,Bool.or_true,Bool.not_true,Bool.false_and]at hR;subst hR;refine Fn.of Tryz.func133 rfl (by kernel_rfl) Tryz.ntmps133 Tryz.results133 rfl fun w0 S0=>?_;refine wk ?_;exact⟨.d rfl (.inl rfl),trivial⟩
  rw[decide_eq_false a0,decide_eq_false an,Bool.or_false,Bool.not_false,Bool.true_and]at hR;by_cases l0:s.length=0
  ·rw[decide_eq_true l0]at hR;subst hR;refine Fn.of Tryz.func133 rfl (by kernel_rfl) Tryz.ntmps133 Tryz.results133 rfl fun w0 S0=>?_;refine wk ?_;exact⟨.d rfl (.inl rfl),trivial⟩
  ·rw[decide_eq_false l0]at hR;subst hR;refine Fn.of Tryz.func133 rfl (by kernel_rfl) Tryz.ntmps133 Tryz.results133 rfl fun w0 S0=>?_;refine wk ?_;exact⟨.d rfl (.inl rfl),trivial⟩
 rw[if_neg k1]at hR;by_cases k5:k=5
 ·rw[if_pos (.inl k5)]at hR;by_cases l0:s.length=0
  ·rw[decide_eq_true l0]at hR;subst hR;refine Fn.of Tryz.func133 rfl (by kernel_rfl) Tryz.ntmps133 Tryz.results133 rfl fun w0 S0=>?_;refine wk ?_;exact⟨.d rfl (.inl rfl),trivial⟩
  ·rw[decide_eq_false l0]at hR;subst hR;refine Fn.of Tryz.func133 rfl (by kernel_rfl) Tryz.ntmps133 Tryz.results133 rfl fun w0 S0=>?_;refine wk ?_;exact⟨.d rfl (.inl rfl),trivial⟩
 by_cases k6:k=6
 ·rw[if_pos (.inr k6)]at hR;by_cases l0:s.length=0
  ·rw[decide_eq_true l0]at hR;subst hR;refine Fn.of Tryz.func133 rfl (by kernel_rfl) Tryz.ntmps133 Tryz.results133 rfl fun w0 S0=>?_;refine wk ?_;exact⟨.d rfl (.inl rfl),trivial⟩
  ·rw[decide_eq_false l0]at hR;subst hR;refine Fn.of Tryz.func133 rfl (by kernel_rfl) Tryz.ntmps133 Tryz.results133 rfl fun w0 S0=>?_;refine wk ?_;exact⟨.d rfl (.inl rfl),trivial⟩
 rw[if_neg (fun h=>h.elim k5 k6)]at hR;by_cases k2:k=2
 ·rw[if_pos k2]at hR;by_cases l1:s.length=1
  rotate_left
  ·rw[decide_eq_false l1,Bool.false_and]at hR;subst hR;refine Fn.of Tryz.func133 rfl (by kernel_rfl) Tryz.ntmps133 Tryz.results133 rfl fun w0 S0=>?_;refine wk ?_;exact⟨.d rfl (.inl rfl),trivial⟩
  rw[decide_eq_true l1,Bool.true_and]at hR;refine Fn.of Tryz.func133 rfl (by kernel_rfl) Tryz.ntmps133 Tryz.results133 rfl fun w0 S0=>?_;refine wk ?_;refine AC.loop (X:=Nat) (fun i=>⟨[(1,.d (.v (.int .i64 n))),(37,.d (.l (s.map enF))),(38,.d (.v (.int .i64 (s.length:Int)))),(39,.d (.v (.int .i64 (i:Int))))],[]⟩) (fun i=>i≤s.length∧shTs (s.drop i) n=R) (fun i=>s.length-i) 0 ⟨Nat.zero_le _,hR⟩ ⟨rfl,rfl,rfl,rfl,trivial⟩ trivial ?_;intro i ⟨hi,hgo⟩;dsimp only at hi hgo ⊢;refine wk ?_;refine s1 (fun g1=>?_) (fun g1=>?_)
  ·have hi1:i<s.length:=by omega
   have hx:s[i]?=some s[i]:=List.getElem?_eq_getElem hi1;rw[List.drop_eq_getElem_cons hi1,shTs]at hgo;have hs:=hsub _ (List.getElem_mem hi1);have ho:=hsg _ (List.getElem_mem hi1);generalize s[i]=g at hx hs ho hgo;have hf:=ih g hs ho n;cases hv:shT g n with
   | false=>
     rw[hv]at hf hgo;rw[Bool.false_and]at hgo;subst hgo;refine wk ?_;refine c1 hf ?_;refine wk ?_;exact⟨.d rfl (.inl rfl),trivial⟩
   | true=>
     rw[hv]at hf hgo;rw[Bool.true_and]at hgo;refine wk ?_;refine c1 hf ?_;refine wk ?_;exact⟨i+1,⟨hi1,hgo⟩,by omega,⟨rfl,rfl,rfl,rfl,trivial⟩,trivial⟩
  ·rw[List.drop_of_length_le (by omega),shTs]at hgo;subst hgo;refine wk ?_;exact⟨.d rfl (.inl rfl),trivial⟩
 rw[if_neg k2]at hR;by_cases k3:k=3
 ·rw[if_pos (.inl k3)]at hR;refine Fn.of Tryz.func133 rfl (by kernel_rfl) Tryz.ntmps133 Tryz.results133 rfl fun w0 S0=>?_;refine wk ?_;refine AC.loop (X:=Nat) (fun i=>⟨[(1,.d (.v (.int .i64 n))),(37,.d (.l (s.map enF))),(38,.d (.v (.int .i64 (s.length:Int)))),(39,.d (.v (.int .i64 (i:Int))))],[]⟩) (fun i=>i≤s.length∧shTs (s.drop i) n=R) (fun i=>s.length-i) 0 ⟨Nat.zero_le _,hR⟩ ⟨rfl,rfl,rfl,rfl,trivial⟩ trivial ?_;intro i ⟨hi,hgo⟩;dsimp only at hi hgo ⊢;refine wk ?_;refine s1 (fun g1=>?_) (fun g1=>?_)
  ·have hi1:i<s.length:=by omega
   have hx:s[i]?=some s[i]:=List.getElem?_eq_getElem hi1;rw[List.drop_eq_getElem_cons hi1,shTs]at hgo;have hs:=hsub _ (List.getElem_mem hi1);have ho:=hsg _ (List.getElem_mem hi1);generalize s[i]=g at hx hs ho hgo;have hf:=ih g hs ho n;cases hv:shT g n with
   | false=>
     rw[hv]at hf hgo;rw[Bool.false_and]at hgo;subst hgo;refine wk ?_;refine c1 hf ?_;refine wk ?_;exact⟨.d rfl (.inl rfl),trivial⟩
   | true=>
     rw[hv]at hf hgo;rw[Bool.true_and]at hgo;refine wk ?_;refine c1 hf ?_;refine wk ?_;exact⟨i+1,⟨hi1,hgo⟩,by omega,⟨rfl,rfl,rfl,rfl,trivial⟩,trivial⟩
  ·rw[List.drop_of_length_le (by omega),shTs]at hgo;subst hgo;refine wk ?_;exact⟨.d rfl (.inl rfl),trivial⟩
 by_cases k4:k=4
 ·rw[if_pos (.inr k4)]at hR;refine Fn.of Tryz.func133 rfl (by kernel_rfl) Tryz.ntmps133 Tryz.results133 rfl fun w0 S0=>?_;refine wk ?_;refine AC.loop (X:=Nat) (fun i=>⟨[(1,.d (.v (.int .i64 n))),(37,.d (.l (s.map enF))),(38,.d (.v (.int .i64 (s.length:Int)))),(39,.d (.v (.int .i64 (i:Int))))],[]⟩) (fun i=>i≤s.length∧shTs (s.drop i) n=R) (fun i=>s.length-i) 0 ⟨Nat.zero_le _,hR⟩ ⟨rfl,rfl,rfl,rfl,trivial⟩ trivial ?_;intro i ⟨hi,hgo⟩;dsimp only at hi hgo ⊢;refine wk ?_;refine s1 (fun g1=>?_) (fun g1=>?_)
  ·have hi1:i<s.length:=by omega
   have hx:s[i]?=some s[i]:=List.getElem?_eq_getElem hi1;rw[List.drop_eq_getElem_cons hi1,shTs]at hgo;have hs:=hsub _ (List.getElem_mem hi1);have ho:=hsg _ (List.getElem_mem hi1);generalize s[i]=g at hx hs ho hgo;have hf:=ih g hs ho n;cases hv:shT g n with
   | false=>
     rw[hv]at hf hgo;rw[Bool.false_and]at hgo;subst hgo;refine wk ?_;refine c1 hf ?_;refine wk ?_;exact⟨.d rfl (.inl rfl),trivial⟩
   | true=>
     rw[hv]at hf hgo;rw[Bool.true_and]at hgo;refine wk ?_;refine c1 hf ?_;refine wk ?_;exact⟨i+1,⟨hi1,hgo⟩,by omega,⟨rfl,rfl,rfl,rfl,trivial⟩,trivial⟩
  ·rw[List.drop_of_length_le (by omega),shTs]at hgo;subst hgo;refine wk ?_;exact⟨.d rfl (.inl rfl),trivial⟩
 rw[if_neg (fun h=>h.elim k3 k4)]at hR;subst hR;refine Fn.of Tryz.func133 rfl (by kernel_rfl) Tryz.ntmps133 Tryz.results133 rfl fun w0 S0=>?_;refine wk ?_;exact⟨.d rfl (.inl rfl),trivial⟩
theorem formT:∀ (m:Nat) (f:FT),szT f<m→okT f→∀ (n:Int),Fn Tryz.prog 137 [.g (enF f),.d (.v (.int .i64 n))] [.d (.v (.bool (shT f n)))]:=by
 intro m
 induction m with
 | zero=>intro f h;omega
 | succ m ih=>
 intro f hm hok n;obtain⟨k,a,s⟩:=f;obtain⟨hsl,hsg⟩:=okT_mk hok;have hsub:∀ g∈s,szT g<m:=fun g hg=>by have:=FT.lt (k:=k) (a:=a) hg;omega
 obtain⟨R,hR⟩:∃ R,shT (.mk k a s) n=R:=⟨_,rfl⟩
 rw[hR,enF_mk];rw[shT,isE s]at hR;by_cases k1:k=1
 ·rw[if_pos k1]at hR;by_cases a0:a<0
  ·rw[decide_eq_true a0,Bool.true_or,Bool.not_true,Bool.false_and]at hR;subst hR;refine Fn.of Tryz.func137 rfl (by kernel_rfl) Tryz.ntmps137 Tryz.results137 rfl fun w0 S0=>?_;refine wk ?_;exact⟨.d rfl (.inl rfl),trivial⟩
  by_cases an:n≤a
  ·rw[decide_eq_true an,Bool.or_true,Bool.not_true,Bool.false_and]at hR;subst hR;refine Fn.of Tryz.func137 rfl (by kernel_rfl) Tryz.ntmps137 Tryz.results137 rfl fun w0 S0=>?_;refine wk ?_;exact⟨.d rfl (.inl rfl),trivial⟩
  rw[decide_eq_false a0,decide_eq_false an,Bool.or_false,Bool.not_false,Bool.true_and]at hR;by_cases l0:s.length=0
  ·rw[decide_eq_true l0]at hR;subst hR;refine Fn.of Tryz.func137 rfl (by kernel_rfl) Tryz.ntmps137 Tryz.results137 rfl fun w0 S0=>?_;refine wk ?_;exact⟨.d rfl (.inl rfl),trivial⟩
  ·rw[decide_eq_false l0]at hR;subst hR;refine Fn.of Tryz.func137 rfl (by kernel_rfl) Tryz.ntmps137 Tryz.results137 rfl fun w0 S0=>?_;refine wk ?_;exact⟨.d rfl (.inl rfl),trivial⟩
 rw[if_neg k1]at hR;by_cases k5:k=5
 ·rw[if_pos (.inl k5)]at hR;by_cases l0:s.length=0
  ·rw[decide_eq_true l0]at hR;subst hR;refine Fn.of Tryz.func137 rfl (by kernel_rfl) Tryz.ntmps137 Tryz.results137 rfl fun w0 S0=>?_;refine wk ?_;exact⟨.d rfl (.inl rfl),trivial⟩
  ·rw[decide_eq_false l0]at hR;subst hR;refine Fn.of Tryz.func137 rfl (by kernel_rfl) Tryz.ntmps137 Tryz.results137 rfl fun w0 S0=>?_;refine wk ?_;exact⟨.d rfl (.inl rfl),trivial⟩
 by_cases k6:k=6
 ·rw[if_pos (.inr k6)]at hR;by_cases l0:s.length=0
  ·rw[decide_eq_true l0]at hR;subst hR;refine Fn.of Tryz.func137 rfl (by kernel_rfl) Tryz.ntmps137 Tryz.results137 rfl fun w0 S0=>?_;refine wk ?_;exact⟨.d rfl (.inl rfl),trivial⟩
  ·rw[decide_eq_false l0]at hR;subst hR;refine Fn.of Tryz.func137 rfl (by kernel_rfl) Tryz.ntmps137 Tryz.results137 rfl fun w0 S0=>?_;refine wk ?_;exact⟨.d rfl (.inl rfl),trivial⟩
 rw[if_neg (fun h=>h.elim k5 k6)]at hR;by_cases k2:k=2
 ·rw[if_pos k2]at hR;by_cases l1:s.length=1
  rotate_left
  ·rw[decide_eq_false l1,Bool.false_and]at hR;subst hR;refine Fn.of Tryz.func137 rfl (by kernel_rfl) Tryz.ntmps137 Tryz.results137 rfl fun w0 S0=>?_;refine wk ?_;exact⟨.d rfl (.inl rfl),trivial⟩
  rw[decide_eq_true l1,Bool.true_and]at hR;obtain⟨g,rfl⟩:=List.length_eq_one_iff.1 l1;have hf:=ih g (hsub g (by simp)) (hsg g (by simp)) n;rw[shTs,shTs,Bool.and_true]at hR;have hx:[g][0]?=some g:=rfl;refine Fn.of Tryz.func137 rfl (by kernel_rfl) Tryz.ntmps137 Tryz.results137 rfl fun w0 S0=>?_;refine wk ?_;refine c1 hf ?_;subst hR;refine wk ?_;exact⟨.d rfl (.inl rfl),trivial⟩
 rw[if_neg k2]at hR;by_cases k3:k=3
 ·rw[if_pos (.inl k3)]at hR;refine Fn.of Tryz.func137 rfl (by kernel_rfl) Tryz.ntmps137 Tryz.results137 rfl fun w0 S0=>?_;refine wk ?_;refine AC.loop (X:=Nat) (fun i=>⟨[(1,.d (.v (.int .i64 n))),(51,.d (.l (s.map enF))),(52,.d (.v (.int .i64 (s.length:Int)))),(53,.d (.v (.int .i64 (i:Int))))],[]⟩) (fun i=>i≤s.length∧shTs (s.drop i) n=R) (fun i=>s.length-i) 0 ⟨Nat.zero_le _,hR⟩ ⟨rfl,rfl,rfl,rfl,trivial⟩ trivial ?_;intro i ⟨hi,hgo⟩;dsimp only at hi hgo ⊢;refine wk ?_;refine s1 (fun g1=>?_) (fun g1=>?_)
  ·have hi1:i<s.length:=by omega
   have hx:s[i]?=some s[i]:=List.getElem?_eq_getElem hi1;rw[List.drop_eq_getElem_cons hi1,shTs]at hgo;have hs:=hsub _ (List.getElem_mem hi1);have ho:=hsg _ (List.getElem_mem hi1);generalize s[i]=g at hx hs ho hgo;have hf:=ih g hs ho n;cases hv:shT g n with
   | false=>
     rw[hv]at hf hgo;rw[Bool.false_and]at hgo;subst hgo;refine wk ?_;refine c1 hf ?_;refine wk ?_;exact⟨.d rfl (.inl rfl),trivial⟩
   | true=>
     rw[hv]at hf hgo;rw[Bool.true_and]at hgo;refine wk ?_;refine c1 hf ?_;refine wk ?_;exact⟨i+1,⟨hi1,hgo⟩,by omega,⟨rfl,rfl,rfl,rfl,trivial⟩,trivial⟩
  ·rw[List.drop_of_length_le (by omega),shTs]at hgo;subst hgo;refine wk ?_;exact⟨.d rfl (.inl rfl),trivial⟩
 by_cases k4:k=4
 ·rw[if_pos (.inr k4)]at hR;refine Fn.of Tryz.func137 rfl (by kernel_rfl) Tryz.ntmps137 Tryz.results137 rfl fun w0 S0=>?_;refine wk ?_;refine AC.loop (X:=Nat) (fun i=>⟨[(1,.d (.v (.int .i64 n))),(51,.d (.l (s.map enF))),(52,.d (.v (.int .i64 (s.length:Int)))),(53,.d (.v (.int .i64 (i:Int))))],[]⟩) (fun i=>i≤s.length∧shTs (s.drop i) n=R) (fun i=>s.length-i) 0 ⟨Nat.zero_le _,hR⟩ ⟨rfl,rfl,rfl,rfl,trivial⟩ trivial ?_;intro i ⟨hi,hgo⟩;dsimp only at hi hgo ⊢;refine wk ?_;refine s1 (fun g1=>?_) (fun g1=>?_)
  ·have hi1:i<s.length:=by omega
   have hx:s[i]?=some s[i]:=List.getElem?_eq_getElem hi1;rw[List.drop_eq_getElem_cons hi1,shTs]at hgo;have hs:=hsub _ (List.getElem_mem hi1);have ho:=hsg _ (List.getElem_mem hi1);generalize s[i]=g at hx hs ho hgo;have hf:=ih g hs ho n;cases hv:shT g n with
   | false=>
     rw[hv]at hf hgo;rw[Bool.false_and]at hgo;subst hgo;refine wk ?_;refine c1 hf ?_;refine wk ?_;exact⟨.d rfl (.inl rfl),trivial⟩
   | true=>
     rw[hv]at hf hgo;rw[Bool.true_and]at hgo;refine wk ?_;refine c1 hf ?_;refine wk ?_;exact⟨i+1,⟨hi1,hgo⟩,by omega,⟨rfl,rfl,rfl,rfl,trivial⟩,trivial⟩
  ·rw[List.drop_of_length_le (by omega),shTs]at hgo;subst hgo;refine wk ?_;exact⟨.d rfl (.inl rfl),trivial⟩
 rw[if_neg (fun h=>h.elim k3 k4)]at hR;subst hR;refine Fn.of Tryz.func137 rfl (by kernel_rfl) Tryz.ntmps137 Tryz.results137 rfl fun w0 S0=>?_;refine wk ?_;exact⟨.d rfl (.inl rfl),trivial⟩
def chkT(f:FT)(n:Int):Int:=if 20000<cntT f 0 1 then 2 else if shT f n=true then 0 else 4
theorem logCheck(f:FT)(hok:okT f)(n:Int):Fn Tryz.prog 72 [.g (enF f),.d (.v (.int .i64 n))] [.d (.v (.int .i64 (chkT f n)))]:=by
 have hc:=countT _ f (Nat.lt_succ_self _) hok 0 1 (by decide) (by decide) (by decide);have hs:=shapedT _ f (Nat.lt_succ_self _) hok n;unfold chkT;by_cases h1:20000<cntT f 0 1
 ·rw[if_pos h1];refine Fn.of Tryz.func72 rfl (by kernel_rfl) Tryz.ntmps72 Tryz.results72 rfl fun w0 S0=>?_;refine wk ?_;refine c1 hc ?_;refine wk ?_;exact⟨.d rfl (.inl rfl),trivial⟩
 rw[if_neg h1];cases hv:shT f n with
 | true=>
   rw[hv]at hs;rw[if_pos rfl];refine Fn.of Tryz.func72 rfl (by kernel_rfl) Tryz.ntmps72 Tryz.results72 rfl fun w0 S0=>?_;refine wk ?_;refine c1 hc ?_;refine wk ?_;refine c1 hs ?_;refine wk ?_;exact⟨.d rfl (.inl rfl),trivial⟩
 | false=>
   rw[hv]at hs;rw[if_neg (by decide)];refine Fn.of Tryz.func72 rfl (by kernel_rfl) Tryz.ntmps72 Tryz.results72 rfl fun w0 S0=>?_;refine wk ?_;refine c1 hc ?_;refine wk ?_;refine c1 hs ?_;refine wk ?_;exact⟨.d rfl (.inl rfl),trivial⟩
mutual
def ovT:FT→Nat→Int
 | .mk _ _ s,d=>if 200<d then-1 else ovTs s 1 d
def ovTs:List FT→Int→Nat→Int
 | [],n,_=>n
 | f::r,n,d=>if ovT f (d+1)<0∨20000<n+ovT f (d+1)then-1 else ovTs r (n+ovT f (d+1)) d
end
mutual
theorem ovT_rng:∀ (f:FT) (d:Nat),-1≤ovT f d∧ovT f d≤20000
 | .mk _ _ s,d=>by
   rw[ovT];split
   ·omega
   ·exact ovTs_rng s 1 d (by omega) (by omega)
theorem ovTs_rng:∀ (s:List FT) (n:Int) (d:Nat),0≤n→n≤20000→ -1≤ovTs s n d∧ovTs s n d≤20000
 | [],n,d,h0,h1=>by rw[ovTs];omega
 | f::r,n,d,h0,h1=>by
   rw[ovTs];split
   ·omega
   ·rename_i h;have:=ovT_rng f (d+1);exact ovTs_rng r _ d (by omega) (by omega)
end
theorem overT:∀ (m:Nat) (f:FT),szT f<m→okT f→∀ (d:Nat),d≤201→Fn Tryz.prog 136 [.g (enF f),.d (.v (.int .i64 (d:Int)))] [.d (.v (.int .i64 (ovT f d)))]:=by
 intro m
 induction m with
 | zero=>intro f h;omega
 | succ m ih=>
 intro f hm hok d hd;obtain⟨k,a,s⟩:=f;obtain⟨hsl,hsg⟩:=okT_mk hok;have hsub:∀ g∈s,szT g<m:=fun g hg=>by have:=FT.lt (k:=k) (a:=a) hg;omega
 rw[enF_mk];rw[ovT];by_cases hbig:200<d
 ·rw[if_pos hbig];refine Fn.of Tryz.func136 rfl (by kernel_rfl) Tryz.ntmps136 Tryz.results136 rfl fun w0 S0=>?_;refine wk ?_;exact⟨.d rfl (.inl rfl),trivial⟩
 rw[if_neg hbig];obtain⟨R,hR⟩:∃ R,ovTs s 1 d=R:=⟨_,rfl⟩
 rw[hR];refine Fn.of Tryz.func136 rfl (by kernel_rfl) Tryz.ntmps136 Tryz.results136 rfl fun w0 S0=>?_;refine wk ?_;refine AC.loop (X:=Nat×Int) (fun x=>⟨[(1,.d (.v (.int .i64 (d:Int)))),(5,.d (.v (.int .i64 x.2))),(12,.d (.l (s.map enF))),(13,.d (.v (.int .i64 (s.length:Int)))),(14,.d (.v (.int .i64 (x.1:Int))))],[]⟩) (fun x=>x.1≤s.length∧0≤x.2∧x.2≤20000∧ovTs (s.drop x.1) x.2 d=R) (fun x=>s.length-x.1) (0,1) ⟨Nat.zero_le _,by decide,by decide,hR⟩ ⟨rfl,rfl,rfl,rfl,rfl,trivial⟩ trivial ?_;intro ⟨i,c⟩ ⟨hi,hc0,hc1,hgo⟩;dsimp only at hi hc0 hc1 hgo ⊢;refine wk ?_;refine s1 (fun g1=>?_) (fun g1=>?_)
 ·have hi1:i<s.length:=by omega
  have hx:s[i]?=some s[i]:=List.getElem?_eq_getElem hi1;rw[List.drop_eq_getElem_cons hi1,ovTs]at hgo;have hs:=hsub _ (List.getElem_mem hi1);have ho:=hsg _ (List.getElem_mem hi1);generalize s[i]=g at hx hs ho hgo;have hf:=ih g hs ho (d+1) (by omega);have hb:=ovT_rng g (d+1);rw[show ((d+1:Nat):Int)=(d:Int)+1 from by omega]at hf;generalize ovT g (d+1)=v at hf hb hgo;by_cases hv:v<0
  ·rw[if_pos (.inl hv)]at hgo;subst hgo;refine wk ?_;refine c1 hf ?_;refine wk ?_;exact⟨.d rfl (.inl rfl),trivial⟩
  by_cases hw:20000<c+v
  ·rw[if_pos (.inr hw)]at hgo;subst hgo;refine wk ?_;refine c1 hf ?_;refine wk ?_;exact⟨.d rfl (.inl rfl),trivial⟩
  rw[if_neg (fun h=>h.elim hv hw)]at hgo;refine wk ?_;refine c1 hf ?_;refine wk ?_;exact⟨(i+1,c+v),⟨hi1,by dsimp only;omega,by dsimp only;omega,hgo⟩,by dsimp only;omega,⟨rfl,rfl,rfl,rfl,rfl,trivial⟩,trivial⟩
 ·rw[List.drop_of_length_le (by omega),ovTs]at hgo;subst hgo;refine wk ?_;exact⟨.d rfl (.inl rfl),trivial⟩
def chk11(f:FT)(n:Int):Int:=if ovT f 1<0 then 2 else if shT f n=true then 0 else 4
theorem check11(f:FT)(hok:okT f)(n:Int):Fn Tryz.prog 77 [.g (enF f),.d (.v (.int .i64 n))] [.d (.v (.int .i64 (chk11 f n)))]:=by
 have hc:=overT _ f (Nat.lt_succ_self _) hok 1 (by decide);have hs:=formT _ f (Nat.lt_succ_self _) hok n;unfold chk11;by_cases h1:ovT f 1<0
 ·rw[if_pos h1];refine Fn.of Tryz.func77 rfl (by kernel_rfl) Tryz.ntmps77 Tryz.results77 rfl fun w0 S0=>?_;refine wk ?_;refine c1 hc ?_;refine wk ?_;exact⟨.d rfl (.inl rfl),trivial⟩
 rw[if_neg h1];cases hv:shT f n with
 | true=>
   rw[hv]at hs;rw[if_pos rfl];refine Fn.of Tryz.func77 rfl (by kernel_rfl) Tryz.ntmps77 Tryz.results77 rfl fun w0 S0=>?_;refine wk ?_;refine c1 hc ?_;refine wk ?_;refine c1 hs ?_;refine wk ?_;exact⟨.d rfl (.inl rfl),trivial⟩
 | false=>
   rw[hv]at hs;rw[if_neg (by decide)];refine Fn.of Tryz.func77 rfl (by kernel_rfl) Tryz.ntmps77 Tryz.results77 rfl fun w0 S0=>?_;refine wk ?_;refine c1 hc ?_;refine wk ?_;refine c1 hs ?_;refine wk ?_;exact⟨.d rfl (.inl rfl),trivial⟩
end Go.Proofs.YthdkkpocihkgbaaGreatDoor
