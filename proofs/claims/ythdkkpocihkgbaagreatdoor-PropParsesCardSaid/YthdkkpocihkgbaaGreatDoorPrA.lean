import Derived.Test.YthdkkpocihkgbaaGreatDoorTy
set_option maxRecDepth 100000
set_option maxHeartbeats 4000000
namespace Go.Proofs.YthdkkpocihkgbaaGreatDoor
open Go.RowKit
attribute [local irreducible] AC Do St
inductive FT where
 | mk (k a:Int) (s:List FT)
def FT.k:FT→Int
 | .mk k _ _=>k
def FT.a:FT→Int
 | .mk _ a _=>a
def FT.s:FT→List FT
 | .mk _ _ s=>s
mutual
def z7:FT→List (List D)
 | .mk _ _ s=>sC s
def sC:List FT→List (List D)
 | []=>[]
 | f::r=>[.v (.int .i64 f.k),.v (.int .i64 f.a),.l (z7 f)]::sC r
end
def aM(f:FT):List D:=[.v (.int .i64 f.k),.v (.int .i64 f.a),.l (z7 f)]
theorem rH:∀ s:List FT,sC s=s.map aM
 | []=>rfl
 | f::r=>by rw[sC,rH r];rfl
theorem gu(k a:Int)(s:List FT):aM (.mk k a s)=[.v (.int .i64 k),.v (.int .i64 a),.l (s.map aM)]:=by
 unfold aM;rw[z7,rH];rfl
noncomputable def iN (f:FT):Nat:=SizeOf.sizeOf f
theorem FT.lt{k a:Int}{s:List FT}{f:FT}(h:f∈s):iN f<iN (FT.mk k a s):=by
 have:=List.sizeOf_lt_of_mem h;unfold iN;simp only[FT.mk.sizeOf_spec];omega
mutual
def dG:FT→Prop
 | .mk _ _ s=>s.length≤9223372036854775807∧mB s
def mB:List FT→Prop
 | []=>True
 | f::r=>dG f∧mB r
end
theorem uh:∀ {s:List FT},mB s→∀ g∈s,dG g
 | [],_,g,hg=>nomatch hg
 | f::r,h,g,hg=>by
   rw[mB]at h;rcases List.mem_cons.1 hg with rfl | hg
   ·exact h.1
   ·exact uh h.2 g hg
theorem kT{k a:Int}{s:List FT}(h:dG (.mk k a s)):s.length≤9223372036854775807∧∀ g∈s,dG g:=by
 rw[dG]at h;exact⟨h.1,uh h.2⟩
mutual
def jb:FT→Int→Nat→Int
 | .mk _ _ s,n,d=>if 200<d then 20001 else eZ s (n+1) d
def eZ:List FT→Int→Nat→Int
 | [],n,_=>n
 | f::r,n,d=>if 20000<n then n else eZ r (jb f n (d+1)) d
end
theorem rZ{s:List FT}{n:Int}{d:Nat}(h:20000<n):eZ s n d=n:=by
 cases s with
 | nil=>rfl
 | cons f r=>rw[eZ,if_pos h]
mutual
theorem tN:∀ (f:FT) (n:Int) (d:Nat),0≤n→n≤20000→0≤jb f n d∧jb f n d≤20001
 | .mk _ _ s,n,d,h0,h1=>by
   rw[jb];split
   ·omega
   ·exact rT s (n+1) d (by omega) (by omega)
theorem rT:∀ (s:List FT) (n:Int) (d:Nat),0≤n→n≤20001→0≤eZ s n d∧eZ s n d≤20001
 | [],n,d,h0,h1=>by rw[eZ];omega
 | f::r,n,d,h0,h1=>by
   rw[eZ];split
   ·omega
   ·have:=tN f n (d+1) h0 (by omega);exact rT r _ d this.1 this.2
end
theorem Dj:∀ (m:Nat) (f:FT),iN f<m→dG f→∀ (n:Int) (d:Nat),0≤n→n≤20000→d≤201→Fn Tryz.prog 132 [.g (aM f),.d (.v (.int .i64 n)),.d (.v (.int .i64 (d:Int)))] [.d (.v (.int .i64 (jb f n d)))]:=by
 intro m
 induction m with
 | zero=>intro f h;omega
 | succ m ih=>
 intro f hm hok n d h0 h1 hd;obtain⟨k,a,s⟩:=f;obtain⟨hsl,hsg⟩:=kT hok;have hsub:∀ g∈s,iN g<m:=fun g hg=>by have:=FT.lt (k:=k) (a:=a) hg;omega
 rw[gu];rw[jb];by_cases hbig:200<d
 ·rw[if_pos hbig];refine Fn.of Tryz.func132 rfl (by kernel_rfl) Tryz.ntmps132 Tryz.results132 rfl fun w0 S0=>?_;refine wk ?_;exact⟨.d rfl (.inl rfl),trivial⟩
 rw[if_neg hbig];obtain⟨R,hR⟩:∃ R,eZ s (n+1) d=R:=⟨_,rfl⟩
 rw[hR];refine Fn.of Tryz.func132 rfl (by kernel_rfl) Tryz.ntmps132 Tryz.results132 rfl fun w0 S0=>?_;refine wk ?_;refine AC.loop (X:=Nat×Int) (fun x=>⟨[(1,.d (.v (.int .i64 x.2))),(2,.d (.v (.int .i64 (d:Int)))),(14,.d (.l (s.map aM))),(15,.d (.v (.int .i64 (s.length:Int)))),(16,.d (.v (.int .i64 (x.1:Int))))],[]⟩) (fun x=>x.1≤s.length∧0≤x.2∧x.2≤20001∧eZ (s.drop x.1) x.2 d=R) (fun x=>s.length-x.1) (0,n+1) ⟨Nat.zero_le _,by dsimp only;omega,by dsimp only;omega,hR⟩ ⟨rfl,rfl,rfl,rfl,rfl,trivial⟩ trivial ?_;intro ⟨i,c⟩ ⟨hi,hc0,hc1,hgo⟩;dsimp only at hi hc0 hc1 hgo ⊢;refine wk ?_;refine s1 (fun g1=>?_) (fun g1=>?_)
 ·have hi1:i<s.length:=by omega
  have hx:s[i]?=some s[i]:=List.getElem?_eq_getElem hi1;rw[List.drop_eq_getElem_cons hi1,eZ]at hgo;have hs:=hsub _ (List.getElem_mem hi1);have ho:=hsg _ (List.getElem_mem hi1);generalize s[i]=g at hx hs ho hgo;refine wk ?_;refine s1 (fun g2=>?_) (fun g2=>?_)
  ·rw[if_pos g2]at hgo;subst hgo;refine wk ?_;exact⟨.d rfl (.inl rfl),trivial⟩
  ·rw[if_neg (by omega)]at hgo;have hf:=ih g hs ho c (d+1) hc0 (by omega) (by omega);have hb:=tN g c (d+1) hc0 (by omega);rw[show ((d+1:Nat):Int)=(d:Int)+1 from by omega]at hf;refine wk ?_;refine c1 hf ?_;refine wk ?_;exact⟨(i+1,jb g c (d+1)),⟨hi1,hb.1,hb.2,hgo⟩,by dsimp only;omega,⟨rfl,rfl,rfl,rfl,rfl,trivial⟩,trivial⟩
 ·rw[List.drop_of_length_le (by omega),eZ]at hgo;subst hgo;refine wk ?_;exact⟨.d rfl (.inl rfl),trivial⟩
mutual
def dH:FT→Int→Bool
 | .mk k a s,n=>
   if k=1 then !(decide (a<0)||decide (n≤a))&&s.isEmpty
   else if k=5∨k=6 then s.isEmpty
   else if k=2 then decide (s.length=1)&&ep s n
   else if k=3∨k=4 then ep s n else false
def ep:List FT→Int→Bool
 | [],_=>true
 | f::r,n=>dH f n&&ep r n
end
theorem tK:∀ (s:List FT) (n:Int),ep s n=s.all fun f=>dH f n
 | [],_=>rfl
 | f::r,n=>by rw[ep,tK r n];rfl
theorem ES{α:Type}(s:List α):s.isEmpty=decide (s.length=0):=by cases s<;>simp
theorem AR:∀ (m:Nat) (f:FT),iN f<m→dG f→∀ (n:Int),Fn Tryz.prog 133 [.g (aM f),.d (.v (.int .i64 n))] [.d (.v (.bool (dH f n)))]:=by
 intro m
 induction m with
 | zero=>intro f h;omega
 | succ m ih=>
 intro f hm hok n;obtain⟨k,a,s⟩:=f;obtain⟨hsl,hsg⟩:=kT hok;have hsub:∀ g∈s,iN g<m:=fun g hg=>by have:=FT.lt (k:=k) (a:=a) hg;omega
 obtain⟨R,hR⟩:∃ R,dH (.mk k a s) n=R:=⟨_,rfl⟩
 rw[hR,gu];rw[dH,ES s]at hR;by_cases k1:k=1
 ·rw[if_pos k1]at hR;by_cases a0:a<0
  ·rw[decide_eq_true a0,Bool.true_or,Bool.not_true,Bool.false_and]at hR;subst hR;refine Fn.of Tryz.func133 rfl (by kernel_rfl) Tryz.ntmps133 Tryz.results133 rfl fun w0 S0=>?_;refine wk ?_;exact⟨.d rfl (.inl rfl),trivial⟩
  by_cases an:n≤a
  ·rw[decide_eq_true an,Bool.or_true,Bool.not_true,Bool.false_and]at hR;subst hR;refine Fn.of Tryz.func133 rfl (by kernel_rfl) Tryz.ntmps133 Tryz.results133 rfl fun w0 S0=>?_;refine wk ?_;exact⟨.d rfl (.inl rfl),trivial⟩
  rw[decide_eq_false a0,decide_eq_false an,Bool.or_false,Bool.not_false,Bool.true_and]at hR;by_cases l0:s.length=0
  ·rw[decide_eq_true l0]at hR;subst hR;refine Fn.of Tryz.func133 rfl (by kernel_rfl) Tryz.ntmps133 Tryz.results133 rfl fun w0 S0=>?_;refine wk ?_;exact⟨.d rfl (.inl rfl),trivial⟩
  ·rw[decide_eq_false l0]at hR;subst hR;refine Fn.of Tryz.func133 rfl (by kernel_rfl) Tryz.ntmps133 Tryz.results133 rfl fun w0 S0=>?_;refine wk ?_;exact⟨.d rfl (.inl rfl),trivial⟩
 rw[if_neg k1]at hR;by_cases k5:k=5
 ·rw[if_pos (.inl k5)]at hR;by_cases l0:s.length=0
  ·rw[decide_eq_true l0]at hR;subst hR;refine Fn.of Tryz.func133 rfl (by kernel_rfl) Tryz.ntmps133 Tryz.results133 rfl fun w0 S0=>?_;refine wk ?_;exact⟨.d rfl (.inl rfl),trivial⟩
  ·rw[decide_eq_false l0]at hR;subst hR;refine Fn.of Tryz.func133 rfl (by kernel_rfl) Tryz.ntmps133 Tryz.results133 rfl fun w0 S0=>?_;refine wk ?_;exact⟨.d rfl (.inl rfl),trivial⟩
 by_cases k6:k=6
 ·rw[if_pos (.inr k6)]at hR;by_cases l0:s.length=0
  ·rw[decide_eq_true l0]at hR;subst hR;refine Fn.of Tryz.func133 rfl (by kernel_rfl) Tryz.ntmps133 Tryz.results133 rfl fun w0 S0=>?_;refine wk ?_;exact⟨.d rfl (.inl rfl),trivial⟩
  ·rw[decide_eq_false l0]at hR;subst hR;refine Fn.of Tryz.func133 rfl (by kernel_rfl) Tryz.ntmps133 Tryz.results133 rfl fun w0 S0=>?_;refine wk ?_;exact⟨.d rfl (.inl rfl),trivial⟩
 rw[if_neg (fun h=>h.elim k5 k6)]at hR;by_cases k2:k=2
 ·rw[if_pos k2]at hR;by_cases l1:s.length=1
  rotate_left
  ·rw[decide_eq_false l1,Bool.false_and]at hR;subst hR;refine Fn.of Tryz.func133 rfl (by kernel_rfl) Tryz.ntmps133 Tryz.results133 rfl fun w0 S0=>?_;refine wk ?_;exact⟨.d rfl (.inl rfl),trivial⟩
  rw[decide_eq_true l1,Bool.true_and]at hR;refine Fn.of Tryz.func133 rfl (by kernel_rfl) Tryz.ntmps133 Tryz.results133 rfl fun w0 S0=>?_;refine wk ?_;refine AC.loop (X:=Nat) (fun i=>⟨[(1,.d (.v (.int .i64 n))),(37,.d (.l (s.map aM))),(38,.d (.v (.int .i64 (s.length:Int)))),(39,.d (.v (.int .i64 (i:Int))))],[]⟩) (fun i=>i≤s.length∧ep (s.drop i) n=R) (fun i=>s.length-i) 0 ⟨Nat.zero_le _,hR⟩ ⟨rfl,rfl,rfl,rfl,trivial⟩ trivial ?_;intro i ⟨hi,hgo⟩;dsimp only at hi hgo ⊢;refine wk ?_;refine s1 (fun g1=>?_) (fun g1=>?_)
  ·have hi1:i<s.length:=by omega
   have hx:s[i]?=some s[i]:=List.getElem?_eq_getElem hi1;rw[List.drop_eq_getElem_cons hi1,ep]at hgo;have hs:=hsub _ (List.getElem_mem hi1);have ho:=hsg _ (List.getElem_mem hi1);generalize s[i]=g at hx hs ho hgo;have hf:=ih g hs ho n;cases hv:dH g n with
   | false=>
     rw[hv]at hf hgo;rw[Bool.false_and]at hgo;subst hgo;refine wk ?_;refine c1 hf ?_;refine wk ?_;exact⟨.d rfl (.inl rfl),trivial⟩
   | true=>
     rw[hv]at hf hgo;rw[Bool.true_and]at hgo;refine wk ?_;refine c1 hf ?_;refine wk ?_;exact⟨i+1,⟨hi1,hgo⟩,by omega,⟨rfl,rfl,rfl,rfl,trivial⟩,trivial⟩
  ·rw[List.drop_of_length_le (by omega),ep]at hgo;subst hgo;refine wk ?_;exact⟨.d rfl (.inl rfl),trivial⟩
 rw[if_neg k2]at hR;by_cases k3:k=3
 ·rw[if_pos (.inl k3)]at hR;refine Fn.of Tryz.func133 rfl (by kernel_rfl) Tryz.ntmps133 Tryz.results133 rfl fun w0 S0=>?_;refine wk ?_;refine AC.loop (X:=Nat) (fun i=>⟨[(1,.d (.v (.int .i64 n))),(37,.d (.l (s.map aM))),(38,.d (.v (.int .i64 (s.length:Int)))),(39,.d (.v (.int .i64 (i:Int))))],[]⟩) (fun i=>i≤s.length∧ep (s.drop i) n=R) (fun i=>s.length-i) 0 ⟨Nat.zero_le _,hR⟩ ⟨rfl,rfl,rfl,rfl,trivial⟩ trivial ?_;intro i ⟨hi,hgo⟩;dsimp only at hi hgo ⊢;refine wk ?_;refine s1 (fun g1=>?_) (fun g1=>?_)
  ·have hi1:i<s.length:=by omega
   have hx:s[i]?=some s[i]:=List.getElem?_eq_getElem hi1;rw[List.drop_eq_getElem_cons hi1,ep]at hgo;have hs:=hsub _ (List.getElem_mem hi1);have ho:=hsg _ (List.getElem_mem hi1);generalize s[i]=g at hx hs ho hgo;have hf:=ih g hs ho n;cases hv:dH g n with
   | false=>
     rw[hv]at hf hgo;rw[Bool.false_and]at hgo;subst hgo;refine wk ?_;refine c1 hf ?_;refine wk ?_;exact⟨.d rfl (.inl rfl),trivial⟩
   | true=>
     rw[hv]at hf hgo;rw[Bool.true_and]at hgo;refine wk ?_;refine c1 hf ?_;refine wk ?_;exact⟨i+1,⟨hi1,hgo⟩,by omega,⟨rfl,rfl,rfl,rfl,trivial⟩,trivial⟩
  ·rw[List.drop_of_length_le (by omega),ep]at hgo;subst hgo;refine wk ?_;exact⟨.d rfl (.inl rfl),trivial⟩
 by_cases k4:k=4
 ·rw[if_pos (.inr k4)]at hR;refine Fn.of Tryz.func133 rfl (by kernel_rfl) Tryz.ntmps133 Tryz.results133 rfl fun w0 S0=>?_;refine wk ?_;refine AC.loop (X:=Nat) (fun i=>⟨[(1,.d (.v (.int .i64 n))),(37,.d (.l (s.map aM))),(38,.d (.v (.int .i64 (s.length:Int)))),(39,.d (.v (.int .i64 (i:Int))))],[]⟩) (fun i=>i≤s.length∧ep (s.drop i) n=R) (fun i=>s.length-i) 0 ⟨Nat.zero_le _,hR⟩ ⟨rfl,rfl,rfl,rfl,trivial⟩ trivial ?_;intro i ⟨hi,hgo⟩;dsimp only at hi hgo ⊢;refine wk ?_;refine s1 (fun g1=>?_) (fun g1=>?_)
  ·have hi1:i<s.length:=by omega
   have hx:s[i]?=some s[i]:=List.getElem?_eq_getElem hi1;rw[List.drop_eq_getElem_cons hi1,ep]at hgo;have hs:=hsub _ (List.getElem_mem hi1);have ho:=hsg _ (List.getElem_mem hi1);generalize s[i]=g at hx hs ho hgo;have hf:=ih g hs ho n;cases hv:dH g n with
   | false=>
     rw[hv]at hf hgo;rw[Bool.false_and]at hgo;subst hgo;refine wk ?_;refine c1 hf ?_;refine wk ?_;exact⟨.d rfl (.inl rfl),trivial⟩
   | true=>
     rw[hv]at hf hgo;rw[Bool.true_and]at hgo;refine wk ?_;refine c1 hf ?_;refine wk ?_;exact⟨i+1,⟨hi1,hgo⟩,by omega,⟨rfl,rfl,rfl,rfl,trivial⟩,trivial⟩
  ·rw[List.drop_of_length_le (by omega),ep]at hgo;subst hgo;refine wk ?_;exact⟨.d rfl (.inl rfl),trivial⟩
 rw[if_neg (fun h=>h.elim k3 k4)]at hR;subst hR;refine Fn.of Tryz.func133 rfl (by kernel_rfl) Tryz.ntmps133 Tryz.results133 rfl fun w0 S0=>?_;refine wk ?_;exact⟨.d rfl (.inl rfl),trivial⟩
theorem DI:∀ (m:Nat) (f:FT),iN f<m→dG f→∀ (n:Int),Fn Tryz.prog 137 [.g (aM f),.d (.v (.int .i64 n))] [.d (.v (.bool (dH f n)))]:=by
 intro m
 induction m with
 | zero=>intro f h;omega
 | succ m ih=>
 intro f hm hok n;obtain⟨k,a,s⟩:=f;obtain⟨hsl,hsg⟩:=kT hok;have hsub:∀ g∈s,iN g<m:=fun g hg=>by have:=FT.lt (k:=k) (a:=a) hg;omega
 obtain⟨R,hR⟩:∃ R,dH (.mk k a s) n=R:=⟨_,rfl⟩
 rw[hR,gu];rw[dH,ES s]at hR;by_cases k1:k=1
 ·rw[if_pos k1]at hR;by_cases a0:a<0
  ·rw[decide_eq_true a0,Bool.true_or,Bool.not_true,Bool.false_and]at hR;subst hR;refine Fn.of Tryz.func137 rfl (by kernel_rfl) Tryz.ntmps137 Tryz.results137 rfl fun w0 S0=>?_;refine wk ?_;exact⟨.d rfl (.inl rfl),trivial⟩
  by_cases an:n≤a
  ·rw[decide_eq_true an,Bool.or_true,Bool.not_true,Bool.false_and]at hR;subst hR;refine Fn.of Tryz.func137 rfl (by kernel_rfl) Tryz.ntmps137 Tryz.results137 rfl fun w0 S0=>?_;refine wk ?_;exact⟨.d rfl (.inl rfl),trivial⟩
  rw[decide_eq_false a0,decide_eq_false an,Bool.or_false,Bool.not_false,Bool.true_and]at hR;by_cases l0:s.length=0
  ·rw[decide_eq_true l0]at hR;subst hR;refine Fn.of Tryz.func137 rfl (by kernel_rfl) Tryz.ntmps137 Tryz.results137 rfl fun w0 S0=>?_;refine wk ?_;exact⟨.d rfl (.inl rfl),trivial⟩
  ·rw[decide_eq_false l0]at hR;subst hR;refine Fn.of Tryz.func137 rfl (by kernel_rfl) Tryz.ntmps137 Tryz.results137 rfl fun w0 S0=>?_;refine wk ?_;exact⟨.d rfl (.inl rfl),trivial⟩
 rw[if_neg k1]at hR;by_cases k5:k=5
 ·rw[if_pos (.inl k5)]at hR;by_cases l0:s.length=0
  ·rw[decide_eq_true l0]at hR;subst hR;refine Fn.of Tryz.func137 rfl (by kernel_rfl) Tryz.ntmps137 Tryz.results137 rfl fun w0 S0=>?_;refine wk ?_;exact⟨.d rfl (.inl rfl),trivial⟩
  ·rw[decide_eq_false l0]at hR;subst hR;refine Fn.of Tryz.func137 rfl (by kernel_rfl) Tryz.ntmps137 Tryz.results137 rfl fun w0 S0=>?_;refine wk ?_;exact⟨.d rfl (.inl rfl),trivial⟩
 by_cases k6:k=6
 ·rw[if_pos (.inr k6)]at hR;by_cases l0:s.length=0
  ·rw[decide_eq_true l0]at hR;subst hR;refine Fn.of Tryz.func137 rfl (by kernel_rfl) Tryz.ntmps137 Tryz.results137 rfl fun w0 S0=>?_;refine wk ?_;exact⟨.d rfl (.inl rfl),trivial⟩
  ·rw[decide_eq_false l0]at hR;subst hR;refine Fn.of Tryz.func137 rfl (by kernel_rfl) Tryz.ntmps137 Tryz.results137 rfl fun w0 S0=>?_;refine wk ?_;exact⟨.d rfl (.inl rfl),trivial⟩
 rw[if_neg (fun h=>h.elim k5 k6)]at hR;by_cases k2:k=2
 ·rw[if_pos k2]at hR;by_cases l1:s.length=1
  rotate_left
  ·rw[decide_eq_false l1,Bool.false_and]at hR;subst hR;refine Fn.of Tryz.func137 rfl (by kernel_rfl) Tryz.ntmps137 Tryz.results137 rfl fun w0 S0=>?_;refine wk ?_;exact⟨.d rfl (.inl rfl),trivial⟩
  rw[decide_eq_true l1,Bool.true_and]at hR;obtain⟨g,rfl⟩:=List.length_eq_one_iff.1 l1;have hf:=ih g (hsub g (by simp)) (hsg g (by simp)) n;rw[ep,ep,Bool.and_true]at hR;have hx:[g][0]?=some g:=rfl;refine Fn.of Tryz.func137 rfl (by kernel_rfl) Tryz.ntmps137 Tryz.results137 rfl fun w0 S0=>?_;refine wk ?_;refine c1 hf ?_;subst hR;refine wk ?_;exact⟨.d rfl (.inl rfl),trivial⟩
 rw[if_neg k2]at hR;by_cases k3:k=3
 ·rw[if_pos (.inl k3)]at hR;refine Fn.of Tryz.func137 rfl (by kernel_rfl) Tryz.ntmps137 Tryz.results137 rfl fun w0 S0=>?_;refine wk ?_;refine AC.loop (X:=Nat) (fun i=>⟨[(1,.d (.v (.int .i64 n))),(51,.d (.l (s.map aM))),(52,.d (.v (.int .i64 (s.length:Int)))),(53,.d (.v (.int .i64 (i:Int))))],[]⟩) (fun i=>i≤s.length∧ep (s.drop i) n=R) (fun i=>s.length-i) 0 ⟨Nat.zero_le _,hR⟩ ⟨rfl,rfl,rfl,rfl,trivial⟩ trivial ?_;intro i ⟨hi,hgo⟩;dsimp only at hi hgo ⊢;refine wk ?_;refine s1 (fun g1=>?_) (fun g1=>?_)
  ·have hi1:i<s.length:=by omega
   have hx:s[i]?=some s[i]:=List.getElem?_eq_getElem hi1;rw[List.drop_eq_getElem_cons hi1,ep]at hgo;have hs:=hsub _ (List.getElem_mem hi1);have ho:=hsg _ (List.getElem_mem hi1);generalize s[i]=g at hx hs ho hgo;have hf:=ih g hs ho n;cases hv:dH g n with
   | false=>
     rw[hv]at hf hgo;rw[Bool.false_and]at hgo;subst hgo;refine wk ?_;refine c1 hf ?_;refine wk ?_;exact⟨.d rfl (.inl rfl),trivial⟩
   | true=>
     rw[hv]at hf hgo;rw[Bool.true_and]at hgo;refine wk ?_;refine c1 hf ?_;refine wk ?_;exact⟨i+1,⟨hi1,hgo⟩,by omega,⟨rfl,rfl,rfl,rfl,trivial⟩,trivial⟩
  ·rw[List.drop_of_length_le (by omega),ep]at hgo;subst hgo;refine wk ?_;exact⟨.d rfl (.inl rfl),trivial⟩
 by_cases k4:k=4
 ·rw[if_pos (.inr k4)]at hR;refine Fn.of Tryz.func137 rfl (by kernel_rfl) Tryz.ntmps137 Tryz.results137 rfl fun w0 S0=>?_;refine wk ?_;refine AC.loop (X:=Nat) (fun i=>⟨[(1,.d (.v (.int .i64 n))),(51,.d (.l (s.map aM))),(52,.d (.v (.int .i64 (s.length:Int)))),(53,.d (.v (.int .i64 (i:Int))))],[]⟩) (fun i=>i≤s.length∧ep (s.drop i) n=R) (fun i=>s.length-i) 0 ⟨Nat.zero_le _,hR⟩ ⟨rfl,rfl,rfl,rfl,trivial⟩ trivial ?_;intro i ⟨hi,hgo⟩;dsimp only at hi hgo ⊢;refine wk ?_;refine s1 (fun g1=>?_) (fun g1=>?_)
  ·have hi1:i<s.length:=by omega
   have hx:s[i]?=some s[i]:=List.getElem?_eq_getElem hi1;rw[List.drop_eq_getElem_cons hi1,ep]at hgo;have hs:=hsub _ (List.getElem_mem hi1);have ho:=hsg _ (List.getElem_mem hi1);generalize s[i]=g at hx hs ho hgo;have hf:=ih g hs ho n;cases hv:dH g n with
   | false=>
     rw[hv]at hf hgo;rw[Bool.false_and]at hgo;subst hgo;refine wk ?_;refine c1 hf ?_;refine wk ?_;exact⟨.d rfl (.inl rfl),trivial⟩
   | true=>
     rw[hv]at hf hgo;rw[Bool.true_and]at hgo;refine wk ?_;refine c1 hf ?_;refine wk ?_;exact⟨i+1,⟨hi1,hgo⟩,by omega,⟨rfl,rfl,rfl,rfl,trivial⟩,trivial⟩
  ·rw[List.drop_of_length_le (by omega),ep]at hgo;subst hgo;refine wk ?_;exact⟨.d rfl (.inl rfl),trivial⟩
 rw[if_neg (fun h=>h.elim k3 k4)]at hR;subst hR;refine Fn.of Tryz.func137 rfl (by kernel_rfl) Tryz.ntmps137 Tryz.results137 rfl fun w0 S0=>?_;refine wk ?_;exact⟨.d rfl (.inl rfl),trivial⟩
def dD(f:FT)(n:Int):Int:=if 20000<jb f 0 1 then 2 else if dH f n=true then 0 else 4
theorem tf(f:FT)(hok:dG f)(n:Int):Fn Tryz.prog 72 [.g (aM f),.d (.v (.int .i64 n))] [.d (.v (.int .i64 (dD f n)))]:=by
 have hc:=Dj _ f (Nat.lt_succ_self _) hok 0 1 (by decide) (by decide) (by decide);have hs:=AR _ f (Nat.lt_succ_self _) hok n;unfold dD;by_cases h1:20000<jb f 0 1
 ·rw[if_pos h1];refine Fn.of Tryz.func72 rfl (by kernel_rfl) Tryz.ntmps72 Tryz.results72 rfl fun w0 S0=>?_;refine wk ?_;refine c1 hc ?_;refine wk ?_;exact⟨.d rfl (.inl rfl),trivial⟩
 rw[if_neg h1];cases hv:dH f n with
 | true=>
   rw[hv]at hs;rw[if_pos rfl];refine Fn.of Tryz.func72 rfl (by kernel_rfl) Tryz.ntmps72 Tryz.results72 rfl fun w0 S0=>?_;refine wk ?_;refine c1 hc ?_;refine wk ?_;refine c1 hs ?_;refine wk ?_;exact⟨.d rfl (.inl rfl),trivial⟩
 | false=>
   rw[hv]at hs;rw[if_neg (by decide)];refine Fn.of Tryz.func72 rfl (by kernel_rfl) Tryz.ntmps72 Tryz.results72 rfl fun w0 S0=>?_;refine wk ?_;refine c1 hc ?_;refine wk ?_;refine c1 hs ?_;refine wk ?_;exact⟨.d rfl (.inl rfl),trivial⟩
mutual
def kj:FT→Nat→Int
 | .mk _ _ s,d=>if 200<d then-1 else iM s 1 d
def iM:List FT→Int→Nat→Int
 | [],n,_=>n
 | f::r,n,d=>if kj f (d+1)<0∨20000<n+kj f (d+1)then-1 else iM r (n+kj f (d+1)) d
end
mutual
theorem vK:∀ (f:FT) (d:Nat),-1≤kj f d∧kj f d≤20000
 | .mk _ _ s,d=>by
   rw[kj];split
   ·omega
   ·exact tF s 1 d (by omega) (by omega)
theorem tF:∀ (s:List FT) (n:Int) (d:Nat),0≤n→n≤20000→ -1≤iM s n d∧iM s n d≤20000
 | [],n,d,h0,h1=>by rw[iM];omega
 | f::r,n,d,h0,h1=>by
   rw[iM];split
   ·omega
   ·rename_i h;have:=vK f (d+1);exact tF r _ d (by omega) (by omega)
end
theorem DH:∀ (m:Nat) (f:FT),iN f<m→dG f→∀ (d:Nat),d≤201→Fn Tryz.prog 136 [.g (aM f),.d (.v (.int .i64 (d:Int)))] [.d (.v (.int .i64 (kj f d)))]:=by
 intro m
 induction m with
 | zero=>intro f h;omega
 | succ m ih=>
 intro f hm hok d hd;obtain⟨k,a,s⟩:=f;obtain⟨hsl,hsg⟩:=kT hok;have hsub:∀ g∈s,iN g<m:=fun g hg=>by have:=FT.lt (k:=k) (a:=a) hg;omega
 rw[gu];rw[kj];by_cases hbig:200<d
 ·rw[if_pos hbig];refine Fn.of Tryz.func136 rfl (by kernel_rfl) Tryz.ntmps136 Tryz.results136 rfl fun w0 S0=>?_;refine wk ?_;exact⟨.d rfl (.inl rfl),trivial⟩
 rw[if_neg hbig];obtain⟨R,hR⟩:∃ R,iM s 1 d=R:=⟨_,rfl⟩
 rw[hR];refine Fn.of Tryz.func136 rfl (by kernel_rfl) Tryz.ntmps136 Tryz.results136 rfl fun w0 S0=>?_;refine wk ?_;refine AC.loop (X:=Nat×Int) (fun x=>⟨[(1,.d (.v (.int .i64 (d:Int)))),(5,.d (.v (.int .i64 x.2))),(12,.d (.l (s.map aM))),(13,.d (.v (.int .i64 (s.length:Int)))),(14,.d (.v (.int .i64 (x.1:Int))))],[]⟩) (fun x=>x.1≤s.length∧0≤x.2∧x.2≤20000∧iM (s.drop x.1) x.2 d=R) (fun x=>s.length-x.1) (0,1) ⟨Nat.zero_le _,by decide,by decide,hR⟩ ⟨rfl,rfl,rfl,rfl,rfl,trivial⟩ trivial ?_;intro ⟨i,c⟩ ⟨hi,hc0,hc1,hgo⟩;dsimp only at hi hc0 hc1 hgo ⊢;refine wk ?_;refine s1 (fun g1=>?_) (fun g1=>?_)
 ·have hi1:i<s.length:=by omega
  have hx:s[i]?=some s[i]:=List.getElem?_eq_getElem hi1;rw[List.drop_eq_getElem_cons hi1,iM]at hgo;have hs:=hsub _ (List.getElem_mem hi1);have ho:=hsg _ (List.getElem_mem hi1);generalize s[i]=g at hx hs ho hgo;have hf:=ih g hs ho (d+1) (by omega);have hb:=vK g (d+1);rw[show ((d+1:Nat):Int)=(d:Int)+1 from by omega]at hf;generalize kj g (d+1)=v at hf hb hgo;by_cases hv:v<0
  ·rw[if_pos (.inl hv)]at hgo;subst hgo;refine wk ?_;refine c1 hf ?_;refine wk ?_;exact⟨.d rfl (.inl rfl),trivial⟩
  by_cases hw:20000<c+v
  ·rw[if_pos (.inr hw)]at hgo;subst hgo;refine wk ?_;refine c1 hf ?_;refine wk ?_;exact⟨.d rfl (.inl rfl),trivial⟩
  rw[if_neg (fun h=>h.elim hv hw)]at hgo;refine wk ?_;refine c1 hf ?_;refine wk ?_;exact⟨(i+1,c+v),⟨hi1,by dsimp only;omega,by dsimp only;omega,hgo⟩,by dsimp only;omega,⟨rfl,rfl,rfl,rfl,rfl,trivial⟩,trivial⟩
 ·rw[List.drop_of_length_le (by omega),iM]at hgo;subst hgo;refine wk ?_;exact⟨.d rfl (.inl rfl),trivial⟩
def jO(f:FT)(n:Int):Int:=if kj f 1<0 then 2 else if dH f n=true then 0 else 4
theorem Bx(f:FT)(hok:dG f)(n:Int):Fn Tryz.prog 77 [.g (aM f),.d (.v (.int .i64 n))] [.d (.v (.int .i64 (jO f n)))]:=by
 have hc:=DH _ f (Nat.lt_succ_self _) hok 1 (by decide);have hs:=DI _ f (Nat.lt_succ_self _) hok n;unfold jO;by_cases h1:kj f 1<0
 ·rw[if_pos h1];refine Fn.of Tryz.func77 rfl (by kernel_rfl) Tryz.ntmps77 Tryz.results77 rfl fun w0 S0=>?_;refine wk ?_;refine c1 hc ?_;refine wk ?_;exact⟨.d rfl (.inl rfl),trivial⟩
 rw[if_neg h1];cases hv:dH f n with
 | true=>
   rw[hv]at hs;rw[if_pos rfl];refine Fn.of Tryz.func77 rfl (by kernel_rfl) Tryz.ntmps77 Tryz.results77 rfl fun w0 S0=>?_;refine wk ?_;refine c1 hc ?_;refine wk ?_;refine c1 hs ?_;refine wk ?_;exact⟨.d rfl (.inl rfl),trivial⟩
 | false=>
   rw[hv]at hs;rw[if_neg (by decide)];refine Fn.of Tryz.func77 rfl (by kernel_rfl) Tryz.ntmps77 Tryz.results77 rfl fun w0 S0=>?_;refine wk ?_;refine c1 hc ?_;refine wk ?_;refine c1 hs ?_;refine wk ?_;exact⟨.d rfl (.inl rfl),trivial⟩
