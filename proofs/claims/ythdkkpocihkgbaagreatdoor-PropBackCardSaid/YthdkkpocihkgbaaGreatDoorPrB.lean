import Derived.Test.YthdkkpocihkgbaaGreatDoorPrA
set_option maxRecDepth 100000
set_option maxHeartbeats 4000000
namespace Go.Proofs.YthdkkpocihkgbaaGreatDoor
open Go.RowKit
attribute [local irreducible] AC Do St
mutual
def tolT:FT→Int→FT×Int
 | .mk k a s,m=>(.mk k a (tolTs s (m-1)).1,(tolTs s (m-1)).2)
def tolTs:List FT→Int→List FT×Int
 | [],m=>([],m)
 | f::r,m=>if m≤0 then([],m)else((tolT f m).1::(tolTs r (tolT f m).2).1,(tolTs r (tolT f m).2).2)
end
mutual
theorem tolT_rng:∀ (f:FT) (m:Int),1≤m→0≤(tolT f m).2∧(tolT f m).2≤m-1
 | .mk k a s,m,h=>by
   rw[tolT];exact tolTs_rng s (m-1) (by omega)
theorem tolTs_rng:∀ (s:List FT) (m:Int),0≤m→0≤(tolTs s m).2∧(tolTs s m).2≤m
 | [],m,h=>by rw[tolTs];dsimp only;omega
 | f::r,m,h=>by
   rw[tolTs];split
   ·dsimp only;omega
   ·have h1:=tolT_rng f m (by omega);have h2:=tolTs_rng r (tolT f m).2 h1.1;dsimp only;omega
end
theorem toldT:∀ (n:Nat) (f:FT),szT f<n→okT f→∀ (m:Int),1≤m→m≤20002→Fn Tryz.prog 139 [.g (enF f),.d (.v (.int .i64 m))] [.g (enF (tolT f m).1),.d (.v (.int .i64 (tolT f m).2))]:=by
 intro n
 induction n with
 | zero=>intro f h;omega
 | succ n ih=>
 intro f hm hok m h1 h2;obtain⟨k,a,s⟩:=f;obtain⟨hsl,hsg⟩:=okT_mk hok;have hsub:∀ g∈s,szT g<n:=fun g hg=>by have:=FT.lt (k:=k) (a:=a) hg;omega
 rw[tolT];dsimp only;rw[enF_mk,enF_mk];obtain⟨RL,RM,hR⟩:∃ RL RM,tolTs s (m-1)=(RL,RM):=⟨_,_,rfl⟩
 rw[hR];dsimp only;refine Fn.of Tryz.func139 rfl (by kernel_rfl) Tryz.ntmps139 Tryz.results139 rfl fun w0 S0=>?_;refine wk ?_;refine AC.rowBox 6 2 41 90 3 rfl rfl rfl ?_;refine AC.loop (X:=Nat×List FT×Int) (fun x=>⟨[(1,.d (.v (.int .i64 x.2.2))),(4,.p 4 0),(6,.p 6 0),(18,.d (.l (s.map enF))),(19,.d (.v (.int .i64 (s.length:Int)))),(20,.d (.v (.int .i64 (x.1:Int))))],[(4,.box 90 [.d (.v (.int .i64 0)),.d (.v (.int .i64 0)),.d .n]),(6,.box 90 [.d (.v (.int .i64 k)),.d (.v (.int .i64 a)),.r 41 x.2.1.length]),(41,.row x.2.1.length 90 3 (x.2.1.map enF))]⟩) (fun x=>x.1≤s.length∧x.2.1.length≤x.1∧(x.2.1.length:Int)+x.2.2≤20001∧0≤x.2.2∧x.2.2≤20001∧x.2.1++(tolTs (s.drop x.1) x.2.2).1=RL∧(tolTs (s.drop x.1) x.2.2).2=RM) (fun x=>s.length-x.1) (0,[],m-1) ⟨Nat.zero_le _,Nat.le_refl _,by simp;omega,by dsimp only;omega,by dsimp only;omega,by dsimp only;rw[List.drop_zero,hR];rfl,by dsimp only;rw[List.drop_zero,hR]⟩ ⟨rfl,rfl,rfl,rfl,rfl,rfl,trivial⟩ ⟨rfl,rfl,rfl,trivial⟩ ?_;intro ⟨i,out,c⟩ ⟨hi,hol,hcc,hc0,hc1,hg1,hg2⟩;dsimp only at hi hol hcc hc0 hc1 hg1 hg2 ⊢;have hml:(out.map enF).length=out.length:=List.length_map ..;refine wk ?_;refine s1 (fun g1=>?_) (fun g1=>?_)
 ·have hi1:i<s.length:=by omega
  have hx:s[i]?=some s[i]:=List.getElem?_eq_getElem hi1;rw[List.drop_eq_getElem_cons hi1,tolTs]at hg1 hg2;have hs:=hsub _ (List.getElem_mem hi1);have ho:=hsg _ (List.getElem_mem hi1);generalize s[i]=g at hx hs ho hg1 hg2;refine wk ?_;refine s1 (fun g2=>?_) (fun g2=>?_)
  ·rw[if_pos g2]at hg1 hg2;dsimp only at hg1 hg2;rw[List.append_nil]at hg1;subst hg1 hg2;refine wk ?_;(first | intro K ms hms hK | intro K hK);refine Chain.frzBox 6 2 rfl rfl rfl ?_;refine wk ?_;exact⟨.cn rfl rfl inferInstance rfl ⟨.inl rfl,.inl rfl,.inl rfl,trivial⟩,.d rfl (.inl rfl),trivial⟩
  ·rw[if_neg g2]at hg1 hg2;dsimp only at hg1 hg2;have hf:=ih g hs ho c (by omega) (by omega);have hb:=tolT_rng g c (by omega);generalize tolT g c=T at hf hb hg1 hg2;obtain⟨x,c2⟩:=T;dsimp only at hf hb hg1 hg2;have hts:(out++[x]).map enF=out.map enF++[enF x]:=by rw[List.map_append];rfl
   have hol2:(out++[x]).length=out.length+1:=by simp
   refine wk ?_;refine c1 hf ?_;refine wk ?_;exact⟨(i+1,out++[x],c2),⟨hi1,by dsimp only;omega,by dsimp only;omega,by dsimp only;omega,by dsimp only;omega,by dsimp only;rw[List.append_assoc];exact hg1,hg2⟩,by dsimp only;omega,⟨rfl,rfl,rfl,rfl,rfl,rfl,trivial⟩,⟨rfl,by dsimp only;rw[hol2];rfl,by dsimp only;rw[hts,hol2];rfl,trivial⟩⟩
 ·rw[List.drop_of_length_le (by omega),tolTs]at hg1 hg2;dsimp only at hg1 hg2;rw[List.append_nil]at hg1;subst hg1 hg2;refine wk ?_;(first | intro K ms hms hK | intro K hK);refine Chain.frzBox 6 2 rfl rfl rfl ?_;refine wk ?_;exact⟨.cn rfl rfl inferInstance rfl ⟨.inl rfl,.inl rfl,.inl rfl,trivial⟩,.d rfl (.inl rfl),trivial⟩
def cutT(f:FT):FT:=(tolT f 20002).1
theorem told11(f:FT)(hok:okT f):Fn Tryz.prog 79 [.g (enF f)] [.g (enF (cutT f))]:=by
 have h:=toldT _ f (Nat.lt_succ_self _) hok 20002 (by decide) (by decide);unfold cutT;generalize tolT f 20002=T at h ⊢;refine Fn.of Tryz.func79 rfl (by kernel_rfl) Tryz.ntmps79 Tryz.results79 rfl fun w0 S0=>?_;refine wk ?_;refine c1 h ?_;refine wk ?_;exact⟨.cn rfl rfl inferInstance rfl ⟨.inl rfl,.inl rfl,.inl rfl,trivial⟩,trivial⟩
mutual
def ndT:FT→Int
 | .mk _ _ s=>1+ndTs s
def ndTs:List FT→Int
 | []=>0
 | f::r=>ndT f+ndTs r
end
mutual
def dpT:FT→Nat→Prop
 | .mk _ _ s,d=>200<d∨dpTs s (d+1)
def dpTs:List FT→Nat→Prop
 | [],_=>False
 | f::r,d=>dpT f d∨dpTs r d
end
mutual
theorem ndT_pos:∀ f:FT,1≤ndT f
 | .mk _ _ s=>by
   rw[ndT];have:=ndTs_pos s;omega
theorem ndTs_pos:∀ s:List FT,0≤ndTs s
 | []=>by rw[ndTs];omega
 | f::r=>by
   rw[ndTs];have h1:=ndT_pos f;have h2:=ndTs_pos r;omega
end
mutual
theorem cntT_ok:∀ (f:FT) (n:Int) (d:Nat),¬dpT f d→n+ndT f≤20000→cntT f n d=n+ndT f
 | .mk _ _ s,n,d,h1,h2=>by
   rw[dpT]at h1;rw[ndT]at h2 ⊢;rw[cntT,if_neg fun h=>h1 (.inl h),cntTs_ok s (n+1) d (fun h=>h1 (.inr h)) (by omega)];omega
theorem cntTs_ok:∀ (s:List FT) (n:Int) (d:Nat),¬dpTs s (d+1)→n+ndTs s≤20000→cntTs s n d=n+ndTs s
 | [],n,d,_,_=>by rw[cntTs,ndTs];omega
 | f::r,n,d,h1,h2=>by
   rw[dpTs]at h1;rw[ndTs]at h2 ⊢;have g1:=ndT_pos f;have g2:=ndTs_pos r;rw[cntTs,if_neg (by omega),cntT_ok f n (d+1) (fun h=>h1 (.inl h)) (by omega),cntTs_ok r _ d (fun h=>h1 (.inr h)) (by omega)];omega
end
mutual
theorem cntT_up:∀ (f:FT) (n:Int) (d:Nat),n≤20000→dpT f d∨20000<n+ndT f→20000<cntT f n d
 | .mk _ _ s,n,d,h1,h2=>by
   rw[dpT,ndT]at h2;rw[cntT];split
   ·omega
   ·rename_i h3;by_cases h4:n+1≤20000
    ·refine cntTs_up s (n+1) d h4 ?_;rcases h2 with (h | h) | h
     ·exact absurd h h3
     ·exact .inl h
     ·exact .inr (by omega)
    ·rw[cntTs_big (by omega)];omega
theorem cntTs_up:∀ (s:List FT) (n:Int) (d:Nat),n≤20000→dpTs s (d+1)∨20000<n+ndTs s→20000<cntTs s n d
 | [],n,d,h1,h2=>by
   rw[dpTs,ndTs]at h2;rcases h2 with h | h
   ·exact h.elim
   ·omega
 | f::r,n,d,h1,h2=>by
   rw[dpTs,ndTs]at h2;rw[cntTs,if_neg (by omega)];by_cases h3:dpT f (d+1)∨20000<n+ndT f
   ·have:=cntT_up f n (d+1) h1 h3;rw[cntTs_big this];exact this
   ·have h4:¬ dpT f (d+1):=fun h=>h3 (.inl h);have h5:n+ndT f≤20000:=by
     have:¬ 20000<n+ndT f:=fun h=>h3 (.inr h);omega
    rw[cntT_ok f n (d+1) h4 h5];refine cntTs_up r _ d h5 ?_;rcases h2 with (h | h) | h
    ·exact absurd h h4
    ·exact .inl h
    ·exact .inr (by omega)
end
mutual
theorem ovT_ok:∀ (f:FT) (d:Nat),¬dpT f d→ndT f≤20000→ovT f d=ndT f
 | .mk _ _ s,d,h1,h2=>by
   rw[dpT]at h1;rw[ndT]at h2 ⊢;rw[ovT,if_neg fun h=>h1 (.inl h),ovTs_ok s 1 d (by omega) (fun h=>h1 (.inr h)) (by omega)]
theorem ovTs_ok:∀ (s:List FT) (n:Int) (d:Nat),0≤n→¬ dpTs s (d+1)→n+ndTs s≤20000→ovTs s n d=n+ndTs s
 | [],n,d,_,_,_=>by rw[ovTs,ndTs];omega
 | f::r,n,d,h0,h1,h2=>by
   rw[dpTs]at h1;rw[ndTs]at h2 ⊢;have g1:=ndT_pos f;have g2:=ndTs_pos r;rw[ovTs,ovT_ok f (d+1) (fun h=>h1 (.inl h)) (by omega),if_neg (by omega),ovTs_ok r _ d (by omega) (fun h=>h1 (.inr h)) (by omega)];omega
end
mutual
theorem ovT_up:∀ (f:FT) (d:Nat),dpT f d∨20000<ndT f→ovT f d<0
 | .mk _ _ s,d,h2=>by
   rw[dpT,ndT]at h2;rw[ovT];split
   ·omega
   ·rename_i h3;refine ovTs_up s 1 d (by omega) (by omega) ?_;rcases h2 with (h | h) | h
    ·exact absurd h h3
    ·exact .inl h
    ·exact .inr h
theorem ovTs_up:∀ (s:List FT) (n:Int) (d:Nat),0≤n→n≤20000→dpTs s (d+1)∨20000<n+ndTs s→ovTs s n d<0
 | [],n,d,h0,h1,h2=>by
   rw[dpTs,ndTs]at h2;rcases h2 with h | h
   ·exact h.elim
   ·omega
 | f::r,n,d,h0,h1,h2=>by
   rw[dpTs,ndTs]at h2;rw[ovTs];by_cases h3:dpT f (d+1)∨20000<ndT f
   ·have:=ovT_up f (d+1) h3;rw[if_pos (.inl this)];decide
   ·have h4:¬ dpT f (d+1):=fun h=>h3 (.inl h);have h5:¬ 20000<ndT f:=fun h=>h3 (.inr h);have g1:=ndT_pos f;rw[ovT_ok f (d+1) h4 (by omega)];by_cases h6:20000<n+ndT f
    ·rw[if_pos (.inr h6)];decide
    ·rw[if_neg (by omega)];refine ovTs_up r _ d (by omega) (by omega) ?_;rcases h2 with (h | h) | h
     ·exact absurd h h4
     ·exact .inl h
     ·exact .inr (by omega)
end
mutual
theorem tolT_all:∀ (f:FT) (m:Int),ndT f≤m→tolT f m=(f,m-ndT f)
 | .mk k a s,m,h=>by
   rw[ndT]at h ⊢;rw[tolT,tolTs_all s (m-1) (by omega)];dsimp only;rw[show m-1-ndTs s=m-(1+ndTs s)from by omega]
theorem tolTs_all:∀ (s:List FT) (m:Int),ndTs s≤m→tolTs s m=(s,m-ndTs s)
 | [],m,_=>by rw[tolTs,ndTs];simp
 | f::r,m,h=>by
   rw[ndTs]at h ⊢;have g1:=ndT_pos f;have g2:=ndTs_pos r;rw[tolTs,if_neg (by omega),tolT_all f m (by omega)];dsimp only;rw[tolTs_all r _ (by omega)];dsimp only;rw[show m-ndT f-ndTs r=m-(ndT f+ndTs r)from by omega]
end
theorem tolTs_zero(s:List FT):tolTs s 0=([],0):=by
 cases s with
 | nil=>rfl
 | cons f r=>rw[tolTs,if_pos (by decide)]
mutual
theorem tolT_cut:∀ (f:FT) (m:Int),1≤m→m<ndT f→ndT (tolT f m).1=m∧(tolT f m).2=0
 | .mk k a s,m,h0,h=>by
   rw[ndT]at h;rw[tolT];dsimp only;rw[ndT];have:=tolTs_cut s (m-1) (by omega) (by omega);omega
theorem tolTs_cut:∀ (s:List FT) (m:Int),0≤m→m<ndTs s→ndTs (tolTs s m).1=m∧(tolTs s m).2=0
 | [],m,h0,h=>by rw[ndTs]at h;omega
 | f::r,m,h0,h=>by
   rw[ndTs]at h;rw[tolTs];split
   ·have e:m=0:=by omega
    subst e;exact⟨rfl,rfl⟩
   ·by_cases h1:ndT f≤m
    ·rw[tolT_all f m h1];dsimp only;rw[ndTs];have:=tolTs_cut r (m-ndT f) (by omega) (by omega);omega
    ·obtain⟨g1,g2⟩:=tolT_cut f m (by omega) (by omega);dsimp only;rw[g2,tolTs_zero];dsimp only;rw[ndTs,ndTs,g1];omega
end
mutual
theorem tolT_sub:∀ (f:FT) (m:Int),okT f→okT (tolT f m).1
 | .mk k a s,m,h=>by
   obtain⟨h1,h2⟩:=(show s.length≤9223372036854775807∧okTs s by rw[okT]at h;exact h)
   obtain⟨g1,g2⟩:=tolTs_sub s (m-1) h2;rw[tolT];dsimp only;rw[okT];exact⟨Nat.le_trans g1 h1,g2⟩
theorem tolTs_sub:∀ (s:List FT) (m:Int),okTs s→(tolTs s m).1.length≤s.length∧okTs (tolTs s m).1
 | [],m,_=>⟨Nat.le_refl _,by rw[tolTs,okTs];trivial⟩
 | f::r,m,h=>by
   rw[okTs]at h;rw[tolTs];split
   ·exact⟨Nat.zero_le _,by dsimp only;rw[okTs];trivial⟩
   ·have h1:=tolT_sub f m h.1;have h2:=tolTs_sub r (tolT f m).2 h.2;dsimp only;rw[okTs];exact⟨by simpa using h2.1,h1,h2.2⟩
end
theorem cutT_ok{f:FT}(h:okT f):okT (cutT f):=tolT_sub f 20002 h
theorem chk_same(f:FT)(n:Int):chk11 (cutT f) n=chkT f n:=by
 have hp:=ndT_pos f;by_cases h1:ndT f≤20002
 ·have e:cutT f=f:=by unfold cutT;rw[tolT_all f 20002 h1]
  rw[e];unfold chk11 chkT;by_cases h2:dpT f 1∨20000<ndT f
  ·rw[if_pos (ovT_up f 1 h2),if_pos (cntT_up f 0 1 (by decide) (h2.imp_right fun h=>by omega))]
  ·have h4:¬ dpT f 1:=fun h=>h2 (.inl h);have h5:¬ 20000<ndT f:=fun h=>h2 (.inr h);have o1:=ovT_ok f 1 h4 (by omega);have o2:=cntT_ok f 0 1 h4 (by omega);rw[if_neg (show ¬ovT f 1<0 by omega),if_neg (show ¬20000<cntT f 0 1 by omega)]
 ·have g1:=(tolT_cut f 20002 (by decide) (by omega)).1;unfold chk11 chkT;rw[if_pos (cntT_up f 0 1 (by decide) (.inr (by omega)))];rw[if_pos (ovT_up (cutT f) 1 (.inr (by show 20000<ndT (tolT f 20002).1;omega)))]
end Go.Proofs.YthdkkpocihkgbaaGreatDoor
