import Derived.Shelf.Strconv.ErrVarAll
import Derived.Shelf.Strconv.AtoiAll
import Derived.Test.YtbbpecfapohlaaaGreatDoorProg
import Derived.Test.YtbbpecfapohlaaaGreatDoorTab
import Derived.Test.YtbbpecfapohlaaaGreatDoorOpen
import Derived.Test.YtbbpecfapohlaaaGreatDoorOw
import Derived.Test.YtbbpecfapohlaaaGreatDoorPfO
import Derived.Test.YtbbpecfapohlaaaGreatDoorPfF
set_option maxRecDepth 100000
set_option maxHeartbeats 8000000
namespace Go.Proofs.YtbbpecfapohlaaaGreatDoor
open Go.RowKit
attribute [local irreducible] AC Do St
section
variable {P:Program}{C:Cx}{o:Oper}{σ:AS}
end
theorem FnK.low{P:Program}{f:FuncId}{K Kw:World→Prop}{args res:List DV}[hK:KHas Kw K](h:FnK P f K args res):FnK P f Kw args res:=⟨h.body,fun S w vs hw=>h.run S w vs (hK.has w hw)⟩
end Go.Proofs.YtbbpecfapohlaaaGreatDoor
namespace Go.Proofs.YtbbpecfapohlaaaGreatDoor
open Go.RowKit
attribute [local irreducible] AC Do St
theorem followsF(p:SP)(B:List Stp)(s:Stp)(hp:OkSP p)(hk:chkP p=0)(hf:forP p s)(hB:∀ x∈B,forP p x∧x.cl.length≤40)(hs:StO s)(R:Bool)(hR:R=true↔givP p B s):Fn Tryz.prog 63 [.g (enSP p),.d (.l (B.map enS)),.g (enS s)] [.d (.v (.bool R))]:=by
 rcases hf.2.2.2 with ⟨h,_⟩ | ⟨h,_⟩ | ⟨h,_⟩
 ·exact folAssume p B s hp hs h R hR
 ·exact folTheory p B s hp hk hs h R hR
 ·exact folChain p B s hB hs h R hR
theorem given22(p:SP)(l:List Stp)(i:Nat)(hi:i<l.length)(hp:OkSP p)(hk:chkP p=0)(hf:forP p l[i])(hB:∀ x∈l.take i,forP p x∧x.cl.length≤40)(hs:StO l[i])(R:Bool)(hR:R=true↔givP p (l.take i) l[i]):Fn Tryz.prog 67 [.g (enSPQ p),.d (.l (l.map enSQ)),.d (.v (.int .i64 (i:Int)))] [.d (.v (.bool R))]:=by
 rcases hf.2.2.2 with ⟨h,_⟩ | ⟨h,_⟩ | ⟨h,_⟩
 ·exact givAssume p l i hi hp h R hR
 ·exact givTheory p l i hi hp hk hs h R hR
 ·exact givChain p l i hi hB hs h R hR
theorem folR_bad{p:SP}{l:List Stp}{k e:Int}(h:FolR p l k e)(h1:chkP p≠0):k=0∧e=chkP p:=by
 rcases h with ⟨_,h2,h3⟩ | ⟨h2,_⟩ | ⟨h2,_⟩
 ·exact⟨h2,h3⟩
 ·exact absurd h2 h1
 ·exact absurd h2 h1
theorem folR_all{p:SP}{l:List Stp}{k e:Int}(h:FolR p l k e)(h0:chkP p=0)(h1:∀ i (h:i<l.length),wroP p (l.take i) l[i]=0):k=0∧e=0:=by
 rcases h with ⟨h2,_⟩ | ⟨_,h2,h3,_⟩ | ⟨_,i,hi,_,h3,_⟩
 ·exact absurd h0 h2
 ·exact⟨h2,h3⟩
 ·exact absurd (h1 i hi) h3
theorem folR_at{p:SP}{l:List Stp}{k e:Int}(h:FolR p l k e)(h0:chkP p=0){i:Nat}(hi:i<l.length)(h1:∀ j (hj:j<i),wroP p (l.take j) (l[j]'(by omega))=0)(h2:wroP p (l.take i) l[i]≠0):k=i∧e=wroP p (l.take i) l[i]:=by
 rcases h with ⟨h3,_⟩ | ⟨_,_,_,h3⟩ | ⟨_,j,hj,h3,h4,h5,h6⟩
 ·exact absurd h0 h3
 ·exact absurd (h3 i hi) h2
 ·have e:i=j:=by
   rcases Nat.lt_trichotomy i j with h | h | h
   ·exact absurd (h3 i h) h2
   ·exact h
   ·exact absurd (h1 j h) h4
  subst e;exact⟨h5,h6⟩
theorem fol_before{p:SP}{l:List Stp}(hs:∀ s∈l,StO s){i:Nat}(hi:i≤l.length)(h1:∀ j (hj:j<i),wroP p (l.take j) (l[j]'(by omega))=0):∀ x∈l.take i,forP p x∧x.cl.length≤40:=fun x hx=>by
 obtain⟨j,hj,rfl⟩:=List.getElem_of_mem hx;rw[List.length_take]at hj;rw[List.getElem_take];exact⟨(wro_zero (h1 j (by omega))).1,(hs _ (List.getElem_mem (by omega))).cn⟩
section
variable {Kw:World→Prop}[KSt Kw][KHas Kw Tab]
theorem proofFollow(p:SP)(l:List Stp)(hp:OkSP p)(hs:∀ s∈l,StO s)(hl:l.length≤60)(k e:Int)(h:FolR p l k e):FnK Tryz.prog 17 Kw [.g (enSP p),.d (.l (l.map enS))] [.d (.v (.int .i64 k)),.d (.v (.int .i64 e))]:=by
 have hck:FnK Tryz.prog 47 Kw [.g (enSP p)] [.d (.v (.int .i64 (chkP p)))]:=(smtCheck p hp).low;have hll:(l.map enS).length=l.length:=List.length_map ..;by_cases h0:chkP p=0
 ·have h2:=folR_all h h0;have h3:=fun i hi h1=>folR_at h h0 (i:=i) hi h1;have hgo:∀ i (hi:i<l.length) (h1:∀ j (hj:j<i),wroP p (l.take j) (l[j]'(by omega))=0),(¬forP p l[i]∧Fn Tryz.prog 62 [.g (enSP p),.g (enS l[i])] [.d (.v (.bool false))]∧wroP p (l.take i) l[i]=4)∨(Fn Tryz.prog 62 [.g (enSP p),.g (enS l[i])] [.d (.v (.bool true))]∧((Fn Tryz.prog 63 [.g (enSP p),.d (.l ((l.take i).map enS)),.g (enS l[i])] [.d (.v (.bool false))]∧wroP p (l.take i) l[i]=6)∨(Fn Tryz.prog 63 [.g (enSP p),.d (.l ((l.take i).map enS)),.g (enS l[i])] [.d (.v (.bool true))]∧wroP p (l.take i) l[i]=0))):=fun i hi h1=>by
   obtain⟨hb,hb1,_⟩:=chk_at hp h0;have hsi:=hs _ (List.getElem_mem hi);by_cases hf:forP p l[i]
   ·refine .inr ⟨prFormedF p _ hp hb hb1 hsi true ⟨fun _=>hf,fun _=>rfl⟩,?_⟩;have hB:=fol_before hs (show i≤l.length by omega) h1;by_cases hg:givP p (l.take i) l[i]
    ·exact .inr ⟨followsF p _ _ hp h0 hf hB hsi true ⟨fun _=>hg,fun _=>rfl⟩,wro_ok hf hg⟩
    ·exact .inl ⟨followsF p _ _ hp h0 hf hB hsi false ⟨fun h=>(by cases h),fun h=>absurd h hg⟩,wro_rule hf hg⟩
   ·exact .inl ⟨hf,prFormedF p _ hp hb hb1 hsi false ⟨fun h=>(by cases h),fun h=>absurd h hf⟩,wro_form hf⟩
  rw[h0]at hck;clear hs h;refine FnK.of Tryz.func17 rfl (by kernel_rfl) Tryz.ntmps17 Tryz.results17 rfl fun w0 S0 hK0=>?_;refine wa ?_;refine AC.loop (X:=Nat) (fun i=>⟨[(1,.d (.l (l.map enS))),(2,.p 2 0),(17,.d (.l (l.map enS))),(18,.d (.v (.int .i64 (l.length:Int)))),(19,.d (.v (.int .i64 (i:Int))))],[(2,.box 29 ((enSP p).map .d))]⟩) (fun i=>i≤l.length∧∀ j (hj:j<i) (hj2:j<l.length),wroP p (l.take j) l[j]=0) (fun i=>l.length-i) 0 ⟨Nat.zero_le _,fun j hj=>absurd hj (by omega)⟩ ⟨rfl,rfl,rfl,rfl,rfl,trivial⟩ ⟨rfl,trivial⟩ ?_;intro i ⟨hi,hz⟩;dsimp only at hi hz ⊢;by_cases h1:i<l.length
  ·have gl:=List.getElem?_eq_getElem h1;have hz':∀ j (hj:j<i),wroP p (l.take j) (l[j]'(by omega))=0:=fun j hj=>hz j hj (by omega);have h3i:=h3 i h1 hz';have hnx:wroP p (l.take i) l[i]=0→∀ j (hj:j<i+1) (hj2:j<l.length),wroP p (l.take j) l[j]=0:=fun h j hj hj2=>by
    by_cases e:j=i
    ·subst e;exact h
    ·exact hz j (by omega) hj2
   rcases hgo i h1 hz' with ⟨_,q1,q2⟩ | ⟨q1,⟨q2,q3⟩ | ⟨q2,q3⟩⟩
   ·rw[q2]at h3i;obtain⟨rfl,rfl⟩:=h3i (by decide);generalize l[i]=s at gl q1;clear hgo h2 h3 hz hz' hnx h3i hp q2;refine wa ?_;exact⟨.d rfl (.inl rfl),.d rfl (.inl rfl),trivial⟩
   ·rw[q3]at h3i;obtain⟨rfl,rfl⟩:=h3i (by decide);generalize l[i]=s at gl q1 q2;clear hgo h2 h3 hz hz' hnx h3i hp q3;refine wa ?_;((try (first | intro K ms hms hK | intro K hK));(first | apply Chain.go | apply Chain.goD);exact rfl;exact rfl;exact Loc.partM (ts:=l) (f:=enS) (i:=i) rfl rfl rfl rfl (by omega));refine wa ?_;exact⟨.d rfl (.inl rfl),.d rfl (.inl rfl),trivial⟩
   ·have hn:=hnx q3;generalize l[i]=s at gl q1 q2;clear hgo h2 h3 hz hz' hnx h3i hp q3;refine wa ?_;((try (first | intro K ms hms hK | intro K hK));(first | apply Chain.go | apply Chain.goD);exact rfl;exact rfl;exact Loc.partM (ts:=l) (f:=enS) (i:=i) rfl rfl rfl rfl (by omega));refine wa ?_;exact⟨i+1,⟨h1,hn⟩,by omega,⟨rfl,rfl,rfl,rfl,rfl,trivial⟩,⟨rfl,trivial⟩⟩
  ·obtain⟨rfl,rfl⟩:=h2 fun j hj=>hz j (by omega) hj;clear hgo h2 h3 hz;refine wa ?_;exact⟨.d rfl (.inl rfl),.d rfl (.inl rfl),trivial⟩
 ·obtain⟨rfl,rfl⟩:=folR_bad h h0;generalize chkP p=e at hck h0;refine FnK.of Tryz.func17 rfl (by kernel_rfl) Tryz.ntmps17 Tryz.results17 rfl fun w0 S0 hK0=>?_;refine wa ?_;exact⟨.d rfl (.inl rfl),.d rfl (.inl rfl),trivial⟩
end
theorem follow22(p:SP)(l:List Stp)(hp:OkSP p)(hs:∀ s∈l,StO s)(hl:l.length≤60)(k e:Int)(h:FolR p l k e):Fn Tryz.prog 20 [.g (enSPQ p),.d (.l (l.map enSQ))] [.d (.v (.int .i64 k)),.d (.v (.int .i64 e))]:=by
 have hck:=check14 p hp;have hll:(l.map enSQ).length=l.length:=List.length_map ..;by_cases h0:chkP p=0
 ·have h2:=folR_all h h0;have h3:=fun i hi h1=>folR_at h h0 (i:=i) hi h1;have hgo:∀ i (hi:i<l.length) (h1:∀ j (hj:j<i),wroP p (l.take j) (l[j]'(by omega))=0),(¬forP p l[i]∧Fn Tryz.prog 66 [.g (enSPQ p),.g (enSQ l[i])] [.d (.v (.bool false))]∧wroP p (l.take i) l[i]=4)∨(Fn Tryz.prog 66 [.g (enSPQ p),.g (enSQ l[i])] [.d (.v (.bool true))]∧((Fn Tryz.prog 67 [.g (enSPQ p),.d (.l (l.map enSQ)),.d (.v (.int .i64 (i:Int)))] [.d (.v (.bool false))]∧wroP p (l.take i) l[i]=6)∨(Fn Tryz.prog 67 [.g (enSPQ p),.d (.l (l.map enSQ)),.d (.v (.int .i64 (i:Int)))] [.d (.v (.bool true))]∧wroP p (l.take i) l[i]=0))):=fun i hi h1=>by
   obtain⟨hb,hb1,_⟩:=chk_at hp h0;have hsi:=hs _ (List.getElem_mem hi);by_cases hf:forP p l[i]
   ·refine .inr ⟨form22 p _ hp hb hb1 hsi true ⟨fun _=>hf,fun _=>rfl⟩,?_⟩;have hB:=fol_before hs (show i≤l.length by omega) h1;by_cases hg:givP p (l.take i) l[i]
    ·exact .inr ⟨given22 p l i hi hp h0 hf hB hsi true ⟨fun _=>hg,fun _=>rfl⟩,wro_ok hf hg⟩
    ·exact .inl ⟨given22 p l i hi hp h0 hf hB hsi false ⟨fun h=>(by cases h),fun h=>absurd h hg⟩,wro_rule hf hg⟩
   ·exact .inl ⟨hf,form22 p _ hp hb hb1 hsi false ⟨fun h=>(by cases h),fun h=>absurd h hf⟩,wro_form hf⟩
  rw[h0]at hck;clear hs h;refine Fn.of Tryz.func20 rfl (by kernel_rfl) Tryz.ntmps20 Tryz.results20 rfl fun w0 S0=>?_;refine wa ?_;refine AC.loop (X:=Nat) (fun i=>⟨[(1,.d (.l (l.map enSQ))),(2,.p 2 0),(17,.d (.l (l.map enSQ))),(18,.d (.v (.int .i64 (l.length:Int)))),(19,.d (.v (.int .i64 (i:Int))))],[(2,.box 42 ((enSPQ p).map .d))]⟩) (fun i=>i≤l.length∧∀ j (hj:j<i) (hj2:j<l.length),wroP p (l.take j) l[j]=0) (fun i=>l.length-i) 0 ⟨Nat.zero_le _,fun j hj=>absurd hj (by omega)⟩ ⟨rfl,rfl,rfl,rfl,rfl,trivial⟩ ⟨rfl,trivial⟩ ?_;intro i ⟨hi,hz⟩;dsimp only at hi hz ⊢;by_cases h1:i<l.length
  ·have gl:=List.getElem?_eq_getElem h1;have hz':∀ j (hj:j<i),wroP p (l.take j) (l[j]'(by omega))=0:=fun j hj=>hz j hj (by omega);have h3i:=h3 i h1 hz';have hnx:wroP p (l.take i) l[i]=0→∀ j (hj:j<i+1) (hj2:j<l.length),wroP p (l.take j) l[j]=0:=fun h j hj hj2=>by
    by_cases e:j=i
    ·subst e;exact h
    ·exact hz j (by omega) hj2
   rcases hgo i h1 hz' with ⟨_,q1,q2⟩ | ⟨q1,⟨q2,q3⟩ | ⟨q2,q3⟩⟩
   ·rw[q2]at h3i;obtain⟨rfl,rfl⟩:=h3i (by decide);generalize l[i]=s at gl q1;clear hgo h2 h3 hz hz' hnx h3i hp q2;refine wa ?_;exact⟨.d rfl (.inl rfl),.d rfl (.inl rfl),trivial⟩
   ·rw[q3]at h3i;obtain⟨rfl,rfl⟩:=h3i (by decide);generalize l[i]=s at gl q1 q2;clear hgo h2 h3 hz hz' hnx h3i hp q3;refine wa ?_;exact⟨.d rfl (.inl rfl),.d rfl (.inl rfl),trivial⟩
   ·have hn:=hnx q3;generalize l[i]=s at gl q1 q2;clear hgo h2 h3 hz hz' hnx h3i hp q3;refine wa ?_;exact⟨i+1,⟨h1,hn⟩,by omega,⟨rfl,rfl,rfl,rfl,rfl,trivial⟩,⟨rfl,trivial⟩⟩
  ·obtain⟨rfl,rfl⟩:=h2 fun j hj=>hz j (by omega) hj;clear hgo h2 h3 hz;refine wa ?_;exact⟨.d rfl (.inl rfl),.d rfl (.inl rfl),trivial⟩
 ·obtain⟨rfl,rfl⟩:=folR_bad h h0;generalize chkP p=e at hck h0;refine Fn.of Tryz.func20 rfl (by kernel_rfl) Tryz.ntmps20 Tryz.results20 rfl fun w0 S0=>?_;refine wa ?_;exact⟨.d rfl (.inl rfl),.d rfl (.inl rfl),trivial⟩
section
variable {Kw:World→Prop}[KSt Kw][KHas Kw Tab]
theorem proofCheck(p:SP)(l:List Stp)(hp:OkSP p)(hs:∀ s∈l,StO s)(hl:l.length≤60)(k e m f:Int)(h:FolR p l k e)(hc:CheR l k e m f):FnK Tryz.prog 19 Kw [.g (enSP p),.d (.l (l.map enS))] [.d (.v (.int .i64 m)),.d (.v (.int .i64 f))]:=by
 have hq:=proofFollow (Kw:=Kw) p l hp hs hl k e h;have hll:(l.map enS).length=l.length:=List.length_map ..;have hcn:=fun s hs'=>(hs s hs').cn;clear hs h;rcases hc with ⟨h1,rfl,rfl⟩ | ⟨rfl,h1,rfl,rfl⟩ | ⟨rfl,⟨s,h1,h2⟩,rfl,rfl⟩
 ·clear hcn;refine FnK.of Tryz.func19 rfl (by kernel_rfl) Tryz.ntmps19 Tryz.results19 rfl fun w0 S0 hK0=>?_;refine wa ?_;exact⟨.d rfl (.inl rfl),.d rfl (.inl rfl),trivial⟩
 ·rcases h1 with h1 | ⟨s,h1,h2⟩
  ·have h0:l.length=0:=by rw[h1];rfl
   clear h1 hcn;refine FnK.of Tryz.func19 rfl (by kernel_rfl) Tryz.ntmps19 Tryz.results19 rfl fun w0 S0 hK0=>?_;refine wa ?_;exact⟨.d rfl (.inl rfl),.d rfl (.inl rfl),trivial⟩
  ·have gl:=h1;have hn:0<l.length:=by
    obtain⟨h3,_⟩:=List.getElem?_eq_some_iff.1 h1;omega
   have hp2:0<s.cl.length:=List.length_pos_iff.2 h2;have hcl:(s.cl.map zI).length=s.cl.length:=List.length_map ..;have hc40:=hcn s (List.mem_of_getElem? h1);clear hcn h1 h2;refine FnK.of Tryz.func19 rfl (by kernel_rfl) Tryz.ntmps19 Tryz.results19 rfl fun w0 S0 hK0=>?_;refine wa ?_;((try (first | intro K ms hms hK | intro K hK));(first | apply Chain.go | apply Chain.goD);exact rfl;exact rfl;exact Loc.idxM (i:=l.length-1) rfl rfl rfl (by omega) gl rfl);refine wa ?_;exact⟨.d rfl (.inl rfl),.d rfl (.inl rfl),trivial⟩
 ·have gl:=h1;have hn:0<l.length:=by
   obtain⟨h3,_⟩:=List.getElem?_eq_some_iff.1 h1;omega
  have hp2:s.cl.length=0:=by rw[h2];rfl
  have hcl:(s.cl.map zI).length=s.cl.length:=List.length_map ..;clear hcn h1 h2;refine FnK.of Tryz.func19 rfl (by kernel_rfl) Tryz.ntmps19 Tryz.results19 rfl fun w0 S0 hK0=>?_;refine wa ?_;((try (first | intro K ms hms hK | intro K hK));(first | apply Chain.go | apply Chain.goD);exact rfl;exact rfl;exact Loc.idxM (i:=l.length-1) rfl rfl rfl (by omega) gl rfl);refine wa ?_;exact⟨.d rfl (.inl rfl),.d rfl (.inl rfl),trivial⟩
end
theorem check22(p:SP)(l:List Stp)(hp:OkSP p)(hs:∀ s∈l,StO s)(hl:l.length≤60)(k e m f:Int)(h:FolR p l k e)(hc:CheR l k e m f):Fn Tryz.prog 23 [.g (enSPQ p),.d (.l (l.map enSQ))] [.d (.v (.int .i64 m)),.d (.v (.int .i64 f))]:=by
 have hq:=follow22 p l hp hs hl k e h;have hll:(l.map enSQ).length=l.length:=List.length_map ..;have hcn:=fun s hs'=>(hs s hs').cn;clear hs h;rcases hc with ⟨h1,rfl,rfl⟩ | ⟨rfl,h1,rfl,rfl⟩ | ⟨rfl,⟨s,h1,h2⟩,rfl,rfl⟩
 ·clear hcn;refine Fn.of Tryz.func23 rfl (by kernel_rfl) Tryz.ntmps23 Tryz.results23 rfl fun w0 S0=>?_;refine wa ?_;exact⟨.d rfl (.inl rfl),.d rfl (.inl rfl),trivial⟩
 ·rcases h1 with h1 | ⟨s,h1,h2⟩
  ·have h0:l.length=0:=by rw[h1];rfl
   clear h1 hcn;refine Fn.of Tryz.func23 rfl (by kernel_rfl) Tryz.ntmps23 Tryz.results23 rfl fun w0 S0=>?_;refine wa ?_;exact⟨.d rfl (.inl rfl),.d rfl (.inl rfl),trivial⟩
  ·have gl:=h1;have hn:0<l.length:=by
    obtain⟨h3,_⟩:=List.getElem?_eq_some_iff.1 h1;omega
   have hp2:0<s.cl.length:=List.length_pos_iff.2 h2;have hcl:(s.cl.map zI).length=s.cl.length:=List.length_map ..;have hc40:=hcn s (List.mem_of_getElem? h1);clear hcn h1 h2;refine Fn.of Tryz.func23 rfl (by kernel_rfl) Tryz.ntmps23 Tryz.results23 rfl fun w0 S0=>?_;refine wa ?_;((try (first | intro K ms hms hK | intro K hK));(first | apply Chain.go | apply Chain.goD);exact rfl;exact rfl;exact Loc.idxM (i:=l.length-1) rfl rfl rfl (by omega) gl rfl);refine wa ?_;exact⟨.d rfl (.inl rfl),.d rfl (.inl rfl),trivial⟩
 ·have gl:=h1;have hn:0<l.length:=by
   obtain⟨h3,_⟩:=List.getElem?_eq_some_iff.1 h1;omega
  have hp2:s.cl.length=0:=by rw[h2];rfl
  have hcl:(s.cl.map zI).length=s.cl.length:=List.length_map ..;clear hcn h1 h2;refine Fn.of Tryz.func23 rfl (by kernel_rfl) Tryz.ntmps23 Tryz.results23 rfl fun w0 S0=>?_;refine wa ?_;((try (first | intro K ms hms hK | intro K hK));(first | apply Chain.go | apply Chain.goD);exact rfl;exact rfl;exact Loc.idxM (i:=l.length-1) rfl rfl rfl (by omega) gl rfl);refine wa ?_;exact⟨.d rfl (.inl rfl),.d rfl (.inl rfl),trivial⟩
end Go.Proofs.YtbbpecfapohlaaaGreatDoor
