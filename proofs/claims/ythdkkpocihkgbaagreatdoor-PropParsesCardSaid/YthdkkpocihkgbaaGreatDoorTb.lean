import Derived.Test.YthdkkpocihkgbaaGreatDoorPrA
set_option maxRecDepth 100000
set_option maxHeartbeats 4000000
namespace Go.Proofs.YthdkkpocihkgbaaGreatDoor
open Go.RowKit
attribute [local irreducible] AC Do St
mutual
def fV:FT→Int→FT×Int
 | .mk k a s,m=>(.mk k a (dI s (m-1)).1,(dI s (m-1)).2)
def dI:List FT→Int→List FT×Int
 | [],m=>([],m)
 | f::r,m=>if m≤0 then([],m)else((fV f m).1::(dI r (fV f m).2).1,(dI r (fV f m).2).2)
end
mutual
theorem uI:∀ (f:FT) (m:Int),1≤m→0≤(fV f m).2∧(fV f m).2≤m-1
 | .mk k a s,m,h=>by
   rw[fV];exact rU s (m-1) (by omega)
theorem rU:∀ (s:List FT) (m:Int),0≤m→0≤(dI s m).2∧(dI s m).2≤m
 | [],m,h=>by rw[dI];dsimp only;omega
 | f::r,m,h=>by
   rw[dI];split
   ·dsimp only;omega
   ·have h1:=uI f m (by omega);have h2:=rU r (fV f m).2 h1.1;dsimp only;omega
end
theorem Ek:∀ (n:Nat) (f:FT),iN f<n→dG f→∀ (m:Int),1≤m→m≤20002→Fn Tryz.prog 139 [.g (aM f),.d (.v (.int .i64 m))] [.g (aM (fV f m).1),.d (.v (.int .i64 (fV f m).2))]:=by
 intro n
 induction n with
 | zero=>intro f h;omega
 | succ n ih=>
 intro f hm hok m h1 h2;obtain⟨k,a,s⟩:=f;obtain⟨hsl,hsg⟩:=kT hok;have hsub:∀ g∈s,iN g<n:=fun g hg=>by have:=FT.lt (k:=k) (a:=a) hg;omega
 rw[fV];dsimp only;rw[gu,gu];obtain⟨RL,RM,hR⟩:∃ RL RM,dI s (m-1)=(RL,RM):=⟨_,_,rfl⟩
 rw[hR];dsimp only;refine Fn.of Tryz.func139 rfl (by kernel_rfl) Tryz.ntmps139 Tryz.results139 rfl fun w0 S0=>?_;refine wk ?_;refine AC.mj 6 2 41 90 3 rfl rfl rfl ?_;refine AC.loop (X:=Nat×List FT×Int) (fun x=>⟨[(1,.d (.v (.int .i64 x.2.2))),(4,.p 4 0),(6,.p 6 0),(18,.d (.l (s.map aM))),(19,.d (.v (.int .i64 (s.length:Int)))),(20,.d (.v (.int .i64 (x.1:Int))))],[(4,.box 90 [.d (.v (.int .i64 0)),.d (.v (.int .i64 0)),.d .n]),(6,.box 90 [.d (.v (.int .i64 k)),.d (.v (.int .i64 a)),.r 41 x.2.1.length]),(41,.row x.2.1.length 90 3 (x.2.1.map aM))]⟩) (fun x=>x.1≤s.length∧x.2.1.length≤x.1∧(x.2.1.length:Int)+x.2.2≤20001∧0≤x.2.2∧x.2.2≤20001∧x.2.1++(dI (s.drop x.1) x.2.2).1=RL∧(dI (s.drop x.1) x.2.2).2=RM) (fun x=>s.length-x.1) (0,[],m-1) ⟨Nat.zero_le _,Nat.le_refl _,by simp;omega,by dsimp only;omega,by dsimp only;omega,by dsimp only;rw[List.drop_zero,hR];rfl,by dsimp only;rw[List.drop_zero,hR]⟩ ⟨rfl,rfl,rfl,rfl,rfl,rfl,trivial⟩ ⟨rfl,rfl,rfl,trivial⟩ ?_;intro ⟨i,out,c⟩ ⟨hi,hol,hcc,hc0,hc1,hg1,hg2⟩;dsimp only at hi hol hcc hc0 hc1 hg1 hg2 ⊢;have hml:(out.map aM).length=out.length:=List.length_map ..;refine wk ?_;refine s1 (fun g1=>?_) (fun g1=>?_)
 ·have hi1:i<s.length:=by omega
  have hx:s[i]?=some s[i]:=List.getElem?_eq_getElem hi1;rw[List.drop_eq_getElem_cons hi1,dI]at hg1 hg2;have hs:=hsub _ (List.getElem_mem hi1);have ho:=hsg _ (List.getElem_mem hi1);generalize s[i]=g at hx hs ho hg1 hg2;refine wk ?_;refine s1 (fun g2=>?_) (fun g2=>?_)
  ·rw[if_pos g2]at hg1 hg2;dsimp only at hg1 hg2;rw[List.append_nil]at hg1;subst hg1 hg2;refine wk ?_;(first | intro K ms hms hK | intro K hK);refine Ch.gT 6 2 rfl rfl rfl ?_;refine wk ?_;exact⟨.cn rfl rfl inferInstance rfl ⟨.inl rfl,.inl rfl,.inl rfl,trivial⟩,.d rfl (.inl rfl),trivial⟩
  ·rw[if_neg g2]at hg1 hg2;dsimp only at hg1 hg2;have hf:=ih g hs ho c (by omega) (by omega);have hb:=uI g c (by omega);generalize fV g c=T at hf hb hg1 hg2;obtain⟨x,c2⟩:=T;dsimp only at hf hb hg1 hg2;have hts:(out++[x]).map aM=out.map aM++[aM x]:=by rw[List.map_append];rfl
   have hol2:(out++[x]).length=out.length+1:=by simp
   refine wk ?_;refine c1 hf ?_;refine wk ?_;exact⟨(i+1,out++[x],c2),⟨hi1,by dsimp only;omega,by dsimp only;omega,by dsimp only;omega,by dsimp only;omega,by dsimp only;rw[List.append_assoc];exact hg1,hg2⟩,by dsimp only;omega,⟨rfl,rfl,rfl,rfl,rfl,rfl,trivial⟩,⟨rfl,by dsimp only;rw[hol2];rfl,by dsimp only;rw[hts,hol2];rfl,trivial⟩⟩
 ·rw[List.drop_of_length_le (by omega),dI]at hg1 hg2;dsimp only at hg1 hg2;rw[List.append_nil]at hg1;subst hg1 hg2;refine wk ?_;(first | intro K ms hms hK | intro K hK);refine Ch.gT 6 2 rfl rfl rfl ?_;refine wk ?_;exact⟨.cn rfl rfl inferInstance rfl ⟨.inl rfl,.inl rfl,.inl rfl,trivial⟩,.d rfl (.inl rfl),trivial⟩
def ki(f:FT):FT:=(fV f 20002).1
theorem Cd(f:FT)(hok:dG f):Fn Tryz.prog 79 [.g (aM f)] [.g (aM (ki f))]:=by
 have h:=Ek _ f (Nat.lt_succ_self _) hok 20002 (by decide) (by decide);unfold ki;generalize fV f 20002=T at h ⊢;refine Fn.of Tryz.func79 rfl (by kernel_rfl) Tryz.ntmps79 Tryz.results79 rfl fun w0 S0=>?_;refine wk ?_;refine c1 h ?_;refine wk ?_;exact⟨.cn rfl rfl inferInstance rfl ⟨.inl rfl,.inl rfl,.inl rfl,trivial⟩,trivial⟩
mutual
def cN:FT→Int
 | .mk _ _ s=>1+bW s
def bW:List FT→Int
 | []=>0
 | f::r=>cN f+bW r
end
mutual
def kK:FT→Nat→Prop
 | .mk _ _ s,d=>200<d∨kg s (d+1)
def kg:List FT→Nat→Prop
 | [],_=>False
 | f::r,d=>kK f d∨kg r d
end
mutual
theorem iT:∀ f:FT,1≤cN f
 | .mk _ _ s=>by
   rw[cN];have:=jw s;omega
theorem jw:∀ s:List FT,0≤bW s
 | []=>by rw[bW];omega
 | f::r=>by
   rw[bW];have h1:=iT f;have h2:=jw r;omega
end
mutual
theorem ri:∀ (f:FT) (n:Int) (d:Nat),¬kK f d→n+cN f≤20000→jb f n d=n+cN f
 | .mk _ _ s,n,d,h1,h2=>by
   rw[kK]at h1;rw[cN]at h2 ⊢;rw[jb,if_neg fun h=>h1 (.inl h),uL s (n+1) d (fun h=>h1 (.inr h)) (by omega)];omega
theorem uL:∀ (s:List FT) (n:Int) (d:Nat),¬kg s (d+1)→n+bW s≤20000→eZ s n d=n+bW s
 | [],n,d,_,_=>by rw[eZ,bW];omega
 | f::r,n,d,h1,h2=>by
   rw[kg]at h1;rw[bW]at h2 ⊢;have g1:=iT f;have g2:=jw r;rw[eZ,if_neg (by omega),ri f n (d+1) (fun h=>h1 (.inl h)) (by omega),uL r _ d (fun h=>h1 (.inr h)) (by omega)];omega
end
mutual
theorem oK:∀ (f:FT) (n:Int) (d:Nat),n≤20000→kK f d∨20000<n+cN f→20000<jb f n d
 | .mk _ _ s,n,d,h1,h2=>by
   rw[kK,cN]at h2;rw[jb];split
   ·omega
   ·rename_i h3;by_cases h4:n+1≤20000
    ·refine uo s (n+1) d h4 ?_;rcases h2 with (h | h) | h
     ·exact absurd h h3
     ·exact .inl h
     ·exact .inr (by omega)
    ·rw[rZ (by omega)];omega
theorem uo:∀ (s:List FT) (n:Int) (d:Nat),n≤20000→kg s (d+1)∨20000<n+bW s→20000<eZ s n d
 | [],n,d,h1,h2=>by
   rw[kg,bW]at h2;rcases h2 with h | h
   ·exact h.elim
   ·omega
 | f::r,n,d,h1,h2=>by
   rw[kg,bW]at h2;rw[eZ,if_neg (by omega)];by_cases h3:kK f (d+1)∨20000<n+cN f
   ·have:=oK f n (d+1) h1 h3;rw[rZ this];exact this
   ·have h4:¬ kK f (d+1):=fun h=>h3 (.inl h);have h5:n+cN f≤20000:=by
     have:¬ 20000<n+cN f:=fun h=>h3 (.inr h);omega
    rw[ri f n (d+1) h4 h5];refine uo r _ d h5 ?_;rcases h2 with (h | h) | h
    ·exact absurd h h4
    ·exact .inl h
    ·exact .inr (by omega)
end
mutual
theorem tZ:∀ (f:FT) (d:Nat),¬kK f d→cN f≤20000→kj f d=cN f
 | .mk _ _ s,d,h1,h2=>by
   rw[kK]at h1;rw[cN]at h2 ⊢;rw[kj,if_neg fun h=>h1 (.inl h),vC s 1 d (by omega) (fun h=>h1 (.inr h)) (by omega)]
theorem vC:∀ (s:List FT) (n:Int) (d:Nat),0≤n→¬ kg s (d+1)→n+bW s≤20000→iM s n d=n+bW s
 | [],n,d,_,_,_=>by rw[iM,bW];omega
 | f::r,n,d,h0,h1,h2=>by
   rw[kg]at h1;rw[bW]at h2 ⊢;have g1:=iT f;have g2:=jw r;rw[iM,tZ f (d+1) (fun h=>h1 (.inl h)) (by omega),if_neg (by omega),vC r _ d (by omega) (fun h=>h1 (.inr h)) (by omega)];omega
end
mutual
theorem sS:∀ (f:FT) (d:Nat),kK f d∨20000<cN f→kj f d<0
 | .mk _ _ s,d,h2=>by
   rw[kK,cN]at h2;rw[kj];split
   ·omega
   ·rename_i h3;refine vW s 1 d (by omega) (by omega) ?_;rcases h2 with (h | h) | h
    ·exact absurd h h3
    ·exact .inl h
    ·exact .inr h
theorem vW:∀ (s:List FT) (n:Int) (d:Nat),0≤n→n≤20000→kg s (d+1)∨20000<n+bW s→iM s n d<0
 | [],n,d,h0,h1,h2=>by
   rw[kg,bW]at h2;rcases h2 with h | h
   ·exact h.elim
   ·omega
 | f::r,n,d,h0,h1,h2=>by
   rw[kg,bW]at h2;rw[iM];by_cases h3:kK f (d+1)∨20000<cN f
   ·have:=sS f (d+1) h3;rw[if_pos (.inl this)];decide
   ·have h4:¬ kK f (d+1):=fun h=>h3 (.inl h);have h5:¬ 20000<cN f:=fun h=>h3 (.inr h);have g1:=iT f;rw[tZ f (d+1) h4 (by omega)];by_cases h6:20000<n+cN f
    ·rw[if_pos (.inr h6)];decide
    ·rw[if_neg (by omega)];refine vW r _ d (by omega) (by omega) ?_;rcases h2 with (h | h) | h
     ·exact absurd h h4
     ·exact .inl h
     ·exact .inr (by omega)
end
mutual
theorem mn:∀ (f:FT) (m:Int),cN f≤m→fV f m=(f,m-cN f)
 | .mk k a s,m,h=>by
   rw[cN]at h ⊢;rw[fV,rL s (m-1) (by omega)];dsimp only;rw[show m-1-bW s=m-(1+bW s)from by omega]
theorem rL:∀ (s:List FT) (m:Int),bW s≤m→dI s m=(s,m-bW s)
 | [],m,_=>by rw[dI,bW];simp
 | f::r,m,h=>by
   rw[bW]at h ⊢;have g1:=iT f;have g2:=jw r;rw[dI,if_neg (by omega),mn f m (by omega)];dsimp only;rw[rL r _ (by omega)];dsimp only;rw[show m-cN f-bW r=m-(cN f+bW r)from by omega]
end
theorem wI(s:List FT):dI s 0=([],0):=by
 cases s with
 | nil=>rfl
 | cons f r=>rw[dI,if_pos (by decide)]
mutual
theorem uC:∀ (f:FT) (m:Int),1≤m→m<cN f→cN (fV f m).1=m∧(fV f m).2=0
 | .mk k a s,m,h0,h=>by
   rw[cN]at h;rw[fV];dsimp only;rw[cN];have:=rF s (m-1) (by omega) (by omega);omega
theorem rF:∀ (s:List FT) (m:Int),0≤m→m<bW s→bW (dI s m).1=m∧(dI s m).2=0
 | [],m,h0,h=>by rw[bW]at h;omega
 | f::r,m,h0,h=>by
   rw[bW]at h;rw[dI];split
   ·have e:m=0:=by omega
    subst e;exact⟨rfl,rfl⟩
   ·by_cases h1:cN f≤m
    ·rw[mn f m h1];dsimp only;rw[bW];have:=rF r (m-cN f) (by omega) (by omega);omega
    ·obtain⟨g1,g2⟩:=uC f m (by omega) (by omega);dsimp only;rw[g2,wI];dsimp only;rw[bW,bW,g1];omega
end
theorem zW(f:FT)(n:Int):jO (ki f) n=dD f n:=by
 have hp:=iT f;by_cases h1:cN f≤20002
 ·have e:ki f=f:=by unfold ki;rw[mn f 20002 h1]
  rw[e];unfold jO dD;by_cases h2:kK f 1∨20000<cN f
  ·rw[if_pos (sS f 1 h2),if_pos (oK f 0 1 (by decide) (h2.imp_right fun h=>by omega))]
  ·have h4:¬ kK f 1:=fun h=>h2 (.inl h);have h5:¬ 20000<cN f:=fun h=>h2 (.inr h);have o1:=tZ f 1 h4 (by omega);have o2:=ri f 0 1 h4 (by omega);rw[if_neg (show ¬kj f 1<0 by omega),if_neg (show ¬20000<jb f 0 1 by omega)]
 ·have g1:=(uC f 20002 (by decide) (by omega)).1;unfold jO dD;rw[if_pos (oK f 0 1 (by decide) (.inr (by omega)))];rw[if_pos (sS (ki f) 1 (.inr (by show 20000<cN (fV f 20002).1;omega)))]
end Go.Proofs.YthdkkpocihkgbaaGreatDoor
namespace Go.Proofs.YthdkkpocihkgbaaGreatDoor
open Go.RowKit
attribute [local irreducible] AC Do St
theorem FV.u6{P:Program}{w w':World}{u r:Value}{x:List DV}(h:FV P w u x r)(hx:bg w w'):FV P w' u x r:=by
 obtain⟨g,cap,h1,h2,h3⟩:=h;exact⟨g,cap,h1,h2,fun S w2 vs h4=>h3 S w2 vs ⟨h4.os.trans hx.os,h4.tape.trans hx.tape,h4.output.trans hx.output,Nat.le_trans hx.size h4.size,fun k hk=>(h4.block k (Nat.lt_of_lt_of_le hk hx.size)).trans (hx.block k hk)⟩⟩
theorem Inv.u6{C:Cx}{σ:AS}{β:Nat→Value}{a:Act}{w:World}(hi:Inv C σ β a w)(hm:C.m=[]):bg C.w0 w:=
 ⟨hi.os,hi.tape,hi.output,hi.size,fun k hk=>hi.fr k hk (by rintro ⟨_,h,_⟩;rw[hm]at h;cases h)⟩
def nW{α:Type}(xs:List α)(p:α→Bool):Int:=match xs.findIdx? p with
 | some i=>i
 | none=> -1
theorem r9{α:Type}{xs:List α}{p:α→Bool}{i:Nat}(hi':i<xs.length)(hb:∀ x∈xs.take i,p x=false):(p xs[i]=false→∀ x∈xs.take (i+1),p x=false)∧(p xs[i]=true→nW xs p=(i:Int)):=by
 constructor
 ·intro h x hx;rw[List.take_succ_eq_append_getElem hi']at hx;rcases List.mem_append.1 hx with hx | hx
  ·exact hb x hx
  ·rw[List.mem_singleton.1 hx];exact h
 ·intro h;unfold nW;have:xs.findIdx? p=some i:=by
   rw[List.findIdx?_eq_some_iff_getElem];refine⟨hi',h,fun j hj=>?_⟩;have:=hb xs[j] (List.mem_take_iff_getElem.2 ⟨j,by omega,rfl⟩);simp[this]
  rw[this]
theorem rX{α:Type}{xs:List α}{p:α→Bool}(hb:∀ x∈xs,p x=false):nW xs p= -1:=by
 unfold nW;rw[List.findIdx?_eq_none_iff.2 hb]
theorem ur{α:Type}(xs:List α)(p:α→Bool):decide (0≤nW xs p)=xs.any p:=by
 unfold nW;cases h:xs.findIdx? p with
 | none=>
   have:=List.findIdx?_eq_none_iff.1 h;rw[show xs.any p=false from List.any_eq_false.2 fun x hx=>by rw[this x hx];decide];rfl
 | some i=>
   rw[List.findIdx?_eq_some_iff_getElem]at h;obtain⟨h1,h2,_⟩:=h;rw[show xs.any p=true from List.any_eq_true.2 ⟨_,List.getElem_mem h1,h2⟩];simp
theorem DT(xs:List FT)(p:FT→Bool)(u:Value)(hlen:xs.length≤9223372036854775807):FnK Tryz.prog 231 (fun w=>∀ x∈xs,FV Tryz.prog w u [.g (aM x)] (.bool (p x))) [.d (.l (xs.map aM)),.d (.v u)] [.d (.v (.int .i64 (nW xs p)))]:=by
 refine FnK.of Tryz.func231 rfl (by kernel_rfl) Tryz.ntmps231 Tryz.results231 rfl fun w0 S0 hK0=>?_;refine wk ?_;refine AC.loop (X:=Nat) (fun i=>⟨[(0,.d (.l (xs.map aM))),(1,.d (.v u)),(7,.d (.v (.int .i64 (xs.length:Int)))),(8,.d (.v (.int .i64 (i:Int))))],[]⟩) (fun i=>i≤xs.length∧∀ x∈xs.take i,p x=false) (fun i=>xs.length-i) 0 ⟨Nat.zero_le _,by simp⟩ ⟨rfl,rfl,rfl,rfl,trivial⟩ trivial ?_;intro i ⟨hi,hb⟩;refine wk ?_;refine s1 (fun h1=>?_) (fun h1=>?_)
 ·have hi':i<xs.length:=by omega
  have hget:xs[i]?=some xs[i]:=List.getElem?_eq_getElem hi';have hF:=hK0 xs[i] (List.getElem_mem hi');obtain⟨hno,hyes⟩:=r9 hi' hb;generalize xs[i]=x at hget hF hno hyes;refine wk ?_;((try (first | intro K ms hms hK | intro K hK));(first | apply Ch.go | apply Ch.ah);exact rfl;exact rfl;exact Loc.AM hF rfl rfl rfl ⟨.inl rfl,trivial⟩ rfl);cases hp:p x with
  | true=>
    refine wk ?_;rw[hyes hp];exact⟨.d rfl (.inl rfl),trivial⟩
  | false=>
    refine wk ?_;exact⟨i+1,⟨by omega,hno hp⟩,by omega,⟨rfl,rfl,rfl,rfl,trivial⟩,trivial⟩
 ·rw[List.take_of_length_le (by omega)]at hb;refine wk ?_;rw[rX hb];exact⟨.d rfl (.inl rfl),trivial⟩
theorem Ax(xs:List FT)(p:FT→Bool)(u:Value)(hlen:xs.length≤9223372036854775807):FnK Tryz.prog 188 (fun w=>∀ x∈xs,FV Tryz.prog w u [.g (aM x)] (.bool (p x))) [.d (.l (xs.map aM)),.d (.v u)] [.d (.v (.bool (xs.any p)))]:=by
 rw[←ur];refine FnK.of Tryz.func188 rfl (by kernel_rfl) Tryz.ntmps188 Tryz.results188 rfl fun w0 S0 hK0=>?_;refine wk ?_;((try (first | intro K ms hms hK | intro K hK));(first | apply Ch.go | apply Ch.ah);exact rfl;exact rfl;exact Loc.lI (R:=[]) (DT xs p u hlen) rfl ⟨.inl rfl,.inl rfl,trivial⟩ (fun _ _ _ _ _ hi x hx=>(hK0 x hx).u6 (hi.u6 rfl)));refine s1 (fun h1=>?_) (fun h1=>?_)
 ·refine wk ?_;rw[decide_eq_true h1];exact⟨.d rfl (.inl rfl),trivial⟩
 ·refine wk ?_;rw[decide_eq_false h1];exact⟨.d rfl (.inl rfl),trivial⟩
mutual
def iy:FT→List Bool→Bool
 | .mk k a s,v=>if k=1 then v.getD a.toNat false else if k=2 then !Cu s v else if k=3 then sq s v else if k=4 then sL s v else decide (k=5)
def Cu:List FT→List Bool→Bool
 | [],_=>false
 | f::_,v=>iy f v
def sq:List FT→List Bool→Bool
 | [],_=>true
 | f::r,v=>iy f v&&sq r v
def sL:List FT→List Bool→Bool
 | [],_=>false
 | f::r,v=>iy f v||sL r v
end
theorem ug:∀ (s:List FT) (v:List Bool),sq s v=!(s.any fun f=>!iy f v)
 | [],_=>rfl
 | f::r,v=>by
   rw[sq,ug r v,List.any_cons,Bool.not_or,Bool.not_not]
theorem tw:∀ (s:List FT) (v:List Bool),sL s v=s.any fun f=>iy f v
 | [],_=>rfl
 | f::r,v=>by rw[sL,tw r v,List.any_cons]
def kF(v:List Bool):D:= .l (v.map fun b=>[.v (.bool b)])
theorem tT{s:List FT}{n:Int}(h:ep s n=true):∀ g∈s,dH g n=true:=by
 rw[tK]at h;exact List.all_eq_true.1 h
theorem As{a:Int}{s:List FT}{n:Int}(h:dH (.mk 1 a s) n=true):0≤a∧a<n:=by
 rw[dH,if_pos rfl]at h;simp at h;omega
theorem Aw{a:Int}{s:List FT}{n:Int}(h:dH (.mk 2 a s) n=true):s.length=1∧∀ g∈s,dH g n=true:=by
 rw[dH,if_neg (by decide),if_neg (by decide),if_pos rfl]at h;rw[Bool.and_eq_true]at h;exact⟨of_decide_eq_true h.1,tT h.2⟩
theorem sI{k a:Int}{s:List FT}{n:Int}(hk:k=3∨k=4)(h:dH (.mk k a s) n=true):∀ g∈s,dH g n=true:=by
 rw[dH,if_neg (by omega),if_neg (by omega),if_neg (by omega),if_pos hk]at h;exact tT h
theorem Cr{v:List Bool}{i:Nat}(h:i<v.length):v[i]?=some (v.getD i false):=by
 rw[List.getD_eq_getElem?_getD,List.getElem?_eq_getElem h];rfl
section
variable {n:Nat}(v:List Bool)(ih:∀ (f:FT),iN f<n→dG f→dH f v.length=true→Fn Tryz.prog 142 [.g (aM f),.d (kF v)] [.d (.v (.bool (iy f v)))])
include ih in
theorem CE(f:FT)(h1:iN f<n)(h2:dG f)(h3:dH f v.length=true):FnB Tryz.prog 189 [.g (aM f)] [kF v] (.bool (!iy f v)):=by
 have hf:=ih f h1 h2 h3;refine FnB.of Tryz.func189 rfl (by kernel_rfl) Tryz.ntmps189 Tryz.results189 rfl fun w0 S0=>?_;refine wk ?_;refine c1 hf ?_;refine wk ?_;cases iy f v with
 | true=>
   refine wk ?_;exact⟨.d rfl (.inl rfl),trivial⟩
 | false=>
   refine wk ?_;exact⟨.d rfl (.inl rfl),trivial⟩
include ih in
theorem C3(f:FT)(h1:iN f<n)(h2:dG f)(h3:dH f v.length=true):FnB Tryz.prog 190 [.g (aM f)] [kF v] (.bool (iy f v)):=by
 have hf:=ih f h1 h2 h3;refine FnB.of Tryz.func190 rfl (by kernel_rfl) Tryz.ntmps190 Tryz.results190 rfl fun w0 S0=>?_;refine wk ?_;refine c1 hf ?_;refine wk ?_;exact⟨.d rfl (.inl rfl),trivial⟩
end
theorem C5(v:List Bool):∀ (n:Nat) (f:FT),iN f<n→dG f→dH f v.length=true→Fn Tryz.prog 142 [.g (aM f),.d (kF v)] [.d (.v (.bool (iy f v)))]:=by
 intro n
 induction n with
 | zero=>intro f h;omega
 | succ n ih=>
 intro f hm hok hsh;obtain⟨k,a,s⟩:=f;obtain⟨hsl,hsg⟩:=kT hok;have hsub:∀ g∈s,iN g<n:=fun g hg=>by have:=FT.lt (k:=k) (a:=a) hg;omega
 obtain⟨R,hR⟩:∃ R,iy (.mk k a s) v=R:=⟨_,rfl⟩
 rw[hR,gu];rw[iy]at hR;by_cases k1:k=1
 ·subst k1;rw[if_pos rfl]at hR;obtain⟨a0,a1⟩:=As hsh;obtain⟨i,rfl⟩:=Int.eq_ofNat_of_zero_le a0;have hget:=Cr (v:=v) (i:=i) (by omega);rw[Int.toNat_natCast]at hR;rw[hR]at hget;unfold kF;refine Fn.of Tryz.func142 rfl (by kernel_rfl) Tryz.ntmps142 Tryz.results142 rfl fun w0 S0=>?_;refine wk ?_;exact⟨.d rfl (.inl rfl),trivial⟩
 rw[if_neg k1]at hR;by_cases k2:k=2
 ·rw[if_pos k2]at hR;subst k2;obtain⟨l1,hall⟩:=Aw hsh;obtain⟨g,rfl⟩:=List.length_eq_one_iff.1 l1;have hf:=ih g (hsub g (by simp)) (hsg g (by simp)) (hall g (by simp));rw[Cu]at hR;have hx:[g][0]?=some g:=rfl;cases hv:iy g v with
  | true=>
    rw[hv]at hf hR;subst hR;refine Fn.of Tryz.func142 rfl (by kernel_rfl) Tryz.ntmps142 Tryz.results142 rfl fun w0 S0=>?_;refine wk ?_;refine c1 hf ?_;refine wk ?_;exact⟨.d rfl (.inl rfl),trivial⟩
  | false=>
    rw[hv]at hf hR;subst hR;refine Fn.of Tryz.func142 rfl (by kernel_rfl) Tryz.ntmps142 Tryz.results142 rfl fun w0 S0=>?_;refine wk ?_;refine c1 hf ?_;refine wk ?_;exact⟨.d rfl (.inl rfl),trivial⟩
 rw[if_neg k2]at hR;by_cases k3:k=3
 ·rw[if_pos k3,ug]at hR;have hall:=sI (.inl k3) hsh;refine Fn.of Tryz.func142 rfl (by kernel_rfl) Tryz.ntmps142 Tryz.results142 rfl fun w0 S0=>?_;refine wk ?_;(first | intro K ms hms hK | intro K hK | skip);refine Ch.pin 3 3 [kF v] rfl rfl fun b=>?_;((try (first | intro K ms hms hK | intro K hK));(first | apply Ch.go | apply Ch.ah);exact rfl;exact rfl;exact Loc.Dn rfl rfl);have hI:=Ax s (fun f=>!iy f v) (Value.func (.func 189) #[] #[Value.pointer (some ⟨b,0,none⟩)]) hsl;((try (first | intro K ms hms hK | intro K hK));(first | apply Ch.go | apply Ch.ah);exact rfl;exact rfl;exact Loc.lI (R:=[3]) hI rfl ⟨.inl rfl,.inl rfl,trivial⟩ (fun _ _ _ _ hR2 hi x hx=>(CE v ih x (hsub x hx) (hsg x hx) (hall x hx)).here hi (id:=3) (by rw[hR2 3 (by simp)];rfl)));generalize (s.any fun f=>!iy f v)=y at hR;cases y with
  | true=>
    subst hR;refine wk ?_;exact⟨.d rfl (.inl rfl),trivial⟩
  | false=>
    subst hR;refine wk ?_;exact⟨.d rfl (.inl rfl),trivial⟩
 rw[if_neg k3]at hR;by_cases k4:k=4
 ·rw[if_pos k4,tw]at hR;have hall:=sI (.inr k4) hsh;refine Fn.of Tryz.func142 rfl (by kernel_rfl) Tryz.ntmps142 Tryz.results142 rfl fun w0 S0=>?_;refine wk ?_;(first | intro K ms hms hK | intro K hK | skip);refine Ch.pin 3 3 [kF v] rfl rfl fun b=>?_;((try (first | intro K ms hms hK | intro K hK));(first | apply Ch.go | apply Ch.ah);exact rfl;exact rfl;exact Loc.Dn rfl rfl);have hI:=Ax s (fun f=>iy f v) (Value.func (.func 190) #[] #[Value.pointer (some ⟨b,0,none⟩)]) hsl;((try (first | intro K ms hms hK | intro K hK));(first | apply Ch.go | apply Ch.ah);exact rfl;exact rfl;exact Loc.lI (R:=[3]) hI rfl ⟨.inl rfl,.inl rfl,trivial⟩ (fun _ _ _ _ hR2 hi x hx=>(C3 v ih x (hsub x hx) (hsg x hx) (hall x hx)).here hi (id:=3) (by rw[hR2 3 (by simp)];rfl)));rw[hR];refine wk ?_;exact⟨.d rfl (.inl rfl),trivial⟩
 rw[if_neg k4]at hR;by_cases k5:k=5
 ·rw[decide_eq_true k5]at hR;subst hR;refine Fn.of Tryz.func142 rfl (by kernel_rfl) Tryz.ntmps142 Tryz.results142 rfl fun w0 S0=>?_;refine wk ?_;exact⟨.d rfl (.inl rfl),trivial⟩
 ·rw[decide_eq_false k5]at hR;subst hR;refine Fn.of Tryz.func142 rfl (by kernel_rfl) Tryz.ntmps142 Tryz.results142 rfl fun w0 S0=>?_;refine wk ?_;exact⟨.d rfl (.inl rfl),trivial⟩
def Ci(f:FT)(v:List Bool):List DV:=if dD f v.length=0 then [.d (.v (.bool (iy f v))),.d (.v (.int .i64 0))]else [.d (.v (.bool false)),.d (.v (.int .i64 (dD f v.length)))]
theorem DU{f:FT}{n:Int}(h:dD f n=0):dH f n=true:=by
 unfold dD at h;split at h
 ·omega
 ·split at h
  ·assumption
  ·omega
theorem Bk(f:FT)(v:List Bool)(hok:dG f):Fn Tryz.prog 81 [.g (aM f),.d (kF v)] (Ci f v):=by
 have hc:=tf f hok v.length;unfold Ci;have hl:(v.map fun b=>[D.v (.bool b)]).length=v.length:=List.length_map ..;by_cases h0:dD f v.length=0
 ·rw[if_pos h0];have he:=C5 v _ f (Nat.lt_succ_self _) hok (DU h0);generalize dD f v.length=c at hc h0;unfold kF at he ⊢;refine Fn.of Tryz.func81 rfl (by kernel_rfl) Tryz.ntmps81 Tryz.results81 rfl fun w0 S0=>?_;refine wk ?_;refine c1 hc ?_;refine wk ?_;refine c1 he ?_;refine wk ?_;exact⟨.d rfl (.inl rfl),.d rfl (.inl rfl),trivial⟩
 ·rw[if_neg h0];generalize dD f v.length=c at hc h0 ⊢;unfold kF;refine Fn.of Tryz.func81 rfl (by kernel_rfl) Tryz.ntmps81 Tryz.results81 rfl fun w0 S0=>?_;refine wk ?_;refine c1 hc ?_;refine wk ?_;exact⟨.d rfl (.inl rfl),.d rfl (.inl rfl),trivial⟩
end Go.Proofs.YthdkkpocihkgbaaGreatDoor
namespace Go.Proofs.YthdkkpocihkgbaaGreatDoor
open Go.RowKit
def bz(q:Rat):Nat:=max q.num.natAbs.log2 q.den.log2+1
theorem bw(q:Rat):Bd (bz q) q:=by
 unfold Bd bz;exact⟨Nat.lt_of_lt_of_le Nat.lt_log2_self (Nat.pow_le_pow_right (by omega) (by omega)),Nat.lt_of_lt_of_le Nat.lt_log2_self (Nat.pow_le_pow_right (by omega) (by omega))⟩
theorem km{k:Nat}{q:Rat}(h:Bd k q):bz q≤k:=by
 unfold bz;have h2:=(Nat.log2_lt q.den_nz).2 h.2;have h1:q.num.natAbs.log2<k:=by
  rcases Nat.eq_zero_or_pos q.num.natAbs with h0 | h0
  ·rw[h0];have:Nat.log2 0=0:=by decide
   omega
  ·exact(Nat.log2_lt (by omega)).2 h.1
 omega
theorem pO(q:Rat):1≤bz q:=by unfold bz;omega
theorem jI{k:Nat}{q:Rat}(h:bz q≤k):Bd k q:=(bw q).mono h
theorem gQ(a b:Rat):bz (a+b)≤bz a+bz b+1:=km ((bw a).add (bw b))
theorem dT(a b:Rat):bz (a*b)≤bz a+bz b:=km ((bw a).mul (bw b))
theorem fC(a:Rat):bz (-a)=bz a:=Nat.le_antisymm (km (bw a).neg) (by have:=km (bw (-a)).neg;rwa[Rat.neg_neg]at this)
def tb:List Tm→Nat
 | []=>0
 | t::l=>bz t.2+1+tb l
theorem nP(l m:List Tm):tb (l++m)=tb l+tb m:=by
 induction l with
 | nil=>simp[tb]
 | cons t l ih=>simp only[List.cons_append,tb,ih];omega
theorem Bw{l m:List Tm}(h:l.Perm m):tb l=tb m:=by
 induction h with
 | nil=>rfl
 | cons t _ ih=>simp only[tb,ih]
 | swap t u l=>simp only[tb];omega
 | trans _ _ h1 h2=>rw[h1,h2]
theorem AY(l:List Tm)(i:Nat):tb (l.take i)≤tb l:=by
 have:=nP (l.take i) (l.drop i);rw[List.take_append_drop]at this;omega
theorem sF{l:List Tm}{i:Nat}(h:i<l.length):tb (l.take i)+bz l[i].2+1≤tb l:=by
 have:=AY l (i+1);rw[List.take_succ_eq_append_getElem h,nP]at this;simp only[tb]at this;omega
theorem mc{l:List Tm}{t:Tm}(h:t∈l):bz t.2+1≤tb l:=by
 obtain⟨i,hi,rfl⟩:=List.getElem_of_mem h;have:=sF hi;omega
theorem kJ(l:List Tm):2*l.length≤tb l:=by
 induction l with
 | nil=>simp[tb]
 | cons t l ih=>
   simp only[tb,List.length_cons];have:=pO t.2;omega
theorem qK(l:List Tm)(v:Int):Bd (tb l+1) (ar l v):=by
 induction l with
 | nil=>exact Bd.zero (by simp[tb])
 | cons t l ih=>
   rw[ar];split
   ·refine((bw t.2).add ih).mono ?_;simp only[tb];omega
   ·rw[Rat.zero_add];exact ih.mono (by simp only[tb];omega)
