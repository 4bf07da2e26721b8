import Derived.Test.YtbbpecfapohlaaaGreatDoorPqA
set_option maxRecDepth 100000
set_option maxHeartbeats 8000000
namespace Go.Proofs.YtbbpecfapohlaaaGreatDoor
open Go.RowKit
attribute [local irreducible] AC Do St
section
variable {Kw:World→Prop}[KSt Kw][KHas Kw Tab]
theorem proofSoundF(p:PN)(hp:okPN p)(l:List SN)(hl:∀ s∈l,okSA s)(pt:List (Bool×List Nat×List Nat))(hpt:okP pt)(bs:List Bool):FnK Tryz.prog 4 Kw [.g (enPN p),.d (.l (l.map enSN)),.d (.l (pt.map enN)),.d (enBs bs)] [.d (.v (.bool true))]:=by
 have hof:=of14 p hp;have hok:=spN_ok hp;have hS:=of22 l (fun s h=>(hl s h).1);have hSo:=stL_o hl;have hSl:=stL_len l;have haw:=awake22 (Kw:=Kw);have hpo:=point pt hpt;have hxs:=pt_ok hpt;have hnu:=nums (ptN pt) 6682 (by omega) hxs.b (by have:=hxs.n;omega);generalize spN p=x at hof hok;generalize stL l=S at hS hSo hSl;generalize ptN pt=xs at hpo hxs hnu;have hti:FnK Tryz.prog 16 Kw [.g (enSP x)] (tiR x):=(smtTidy x hok).low;unfold tiR at hti;clear hl hp hpt;by_cases h0:looP x=0
 ·rw[if_pos h0]at hti;obtain⟨hok2,hch⟩:=tidP_ok hok (looP_zero h0);generalize tidP x=y at hti hok2 hch;have hl2:=chk_loose hok2 hch;have hh:=holds14 y hok2 hl2 xs bs hxs;have hto:=told14 y hok2;obtain⟨hB,hhol⟩:∃ B,holP y xs bs=B:=⟨_,rfl⟩
  rw[hhol]at hh;cases hB with
  | false=>
    clear hSo hl2;refine FnK.of Tryz.func4 rfl (by kernel_rfl) Tryz.ntmps4 Tryz.results4 rfl fun w0 S0 hK0=>?_;refine wa ?_;exact⟨.d rfl (.inl rfl),trivial⟩
  | true=>
    obtain⟨k,e,hf⟩:=folR_ex y S;obtain⟨m,f,hc⟩:=cheR_ex S k e;have q1:=proofFollow (Kw:=Kw) y S hok2 hSo hSl k e hf;have q2:=proofCheck (Kw:=Kw) y S hok2 hSo hSl k e m f hf hc;have hend:=fol_end hch hSo hhol hf hc;have hN:∃ N:Nat,N≤S.length∧((e=0∧N=S.length)∨(e≠0∧k=N))∧∀ i (h:i<S.length),i<N→wroP y (S.take i) S[i]=0:=by
     rcases hf with ⟨h1,_⟩ | ⟨_,h2,h3,h4⟩ | ⟨_,i,hi,h3,h4,h5,h6⟩
     ·exact absurd hch h1
     ·exact⟨S.length,Nat.le_refl _,.inl ⟨h3,rfl⟩,fun i h _=>h4 i h⟩
     ·exact⟨i,by omega,.inr ⟨by omega,h5⟩,fun j _ hj=>h3 j hj⟩
    obtain⟨N,hN1,hN2,hN3⟩:=hN;have hho:∀ i (h:i<S.length),i<N→Fn Tryz.prog 28 [.g (enSPQ y),.d (enZ S[i].cl),.d (.l (xs.map enQ)),.d (enBs bs)] [.d (.v (.bool true))]:=fun i h hi=>by
     obtain⟨hfm,_⟩:=wro_zero (hN3 i h hi);have hsi:=hSo _ (List.getElem_mem h);exact holds22 y _ xs bs hok2.a (by have:=hok2.an;omega) (fun v hv=>⟨hfm.1 v hv,hfm.2.2.1 v hv⟩) hxs (by have:=hsi.cn;omega) true ⟨fun _=>fol_hold hch hSo hhol hN1 hN3 N i h hi hi,fun _=>rfl⟩
    have hll:(S.map enS).length=S.length:=List.length_map ..;have hlt:((S.take N).map enS).length=N:=by rw[List.length_map,List.length_take];omega
    have hlt2:(S.take N).length=N:=by rw[List.length_take];omega
    have hgl:∀ i (h:i<S.length),i<N→(S.take N)[i]?=some S[i]:=fun i h hi=>by rw[List.getElem?_take_of_lt hi,List.getElem?_eq_getElem h]
    clear hf hc hSo hN3 hhol hl2 hok hok2;rcases hN2 with ⟨he,hNl⟩ | ⟨he,hkN⟩
    ·subst he;refine FnK.of Tryz.func4 rfl (by kernel_rfl) Tryz.ntmps4 Tryz.results4 rfl fun w0 S0 hK0=>?_;refine wa ?_;((try (first | intro K ms hms hK | intro K hK));(first | apply Chain.go | apply Chain.goD);exact rfl;exact rfl;exact Loc.partM (ts:=S) (f:=enS) (i:=N) rfl rfl rfl (by omega) (by omega));refine wa ?_;refine AC.loop (X:=Nat) (fun i=>⟨[(2,.d (.l (pt.map enN))),(3,.d (enBs bs)),(9,.p 9 0),(15,.d (.v (.int .i64 f))),(67,.d (.l ((S.take N).map enS))),(68,.d (.v (.int .i64 (N:Int)))),(69,.d (.v (.int .i64 (i:Int))))],[(9,.box 29 ((enSP y).map .d))]⟩) (fun i=>i≤N) (fun i=>N-i) 0 (Nat.zero_le _) ⟨rfl,rfl,rfl,rfl,rfl,iv (by omega),rfl,trivial⟩ ⟨rfl,trivial⟩ ?_;intro i hi;dsimp only at hi ⊢;by_cases h1:i<N
     ·have gl:=hgl i (by omega) h1;have hh2:=hho i (by omega) h1;generalize S[i]'(by omega)=s at gl hh2;clear hgl hho hh hti q1 q2 hof hS;refine wa ?_;exact⟨i+1,h1,by omega,⟨rfl,rfl,rfl,rfl,rfl,rfl,rfl,trivial⟩,⟨rfl,trivial⟩⟩
     ·clear hgl hho hh hti q1 q2 hof hS;refine wa ?_;exact⟨.d rfl (.inl rfl),trivial⟩
    ·subst hkN;refine FnK.of Tryz.func4 rfl (by kernel_rfl) Tryz.ntmps4 Tryz.results4 rfl fun w0 S0 hK0=>?_;refine wa ?_;((try (first | intro K ms hms hK | intro K hK));(first | apply Chain.go | apply Chain.goD);exact rfl;exact rfl;exact Loc.partM (ts:=S) (f:=enS) (i:=N) rfl rfl rfl (by omega) (by omega));refine wa ?_;refine AC.loop (X:=Nat) (fun i=>⟨[(2,.d (.l (pt.map enN))),(3,.d (enBs bs)),(9,.p 9 0),(15,.d (.v (.int .i64 f))),(67,.d (.l ((S.take N).map enS))),(68,.d (.v (.int .i64 (N:Int)))),(69,.d (.v (.int .i64 (i:Int))))],[(9,.box 29 ((enSP y).map .d))]⟩) (fun i=>i≤N) (fun i=>N-i) 0 (Nat.zero_le _) ⟨rfl,rfl,rfl,rfl,rfl,iv (by omega),rfl,trivial⟩ ⟨rfl,trivial⟩ ?_;intro i hi;dsimp only at hi ⊢;by_cases h1:i<N
     ·have gl:=hgl i (by omega) h1;have hh2:=hho i (by omega) h1;generalize S[i]'(by omega)=s at gl hh2;clear hgl hho hh hti q1 q2 hof hS;refine wa ?_;exact⟨i+1,h1,by omega,⟨rfl,rfl,rfl,rfl,rfl,rfl,rfl,trivial⟩,⟨rfl,trivial⟩⟩
     ·clear hgl hho hh hti q1 q2 hof hS;refine wa ?_;exact⟨.d rfl (.inl rfl),trivial⟩
 ·rw[if_neg h0]at hti;generalize looP x=v at hti h0;refine FnK.of Tryz.func4 rfl (by kernel_rfl) Tryz.ntmps4 Tryz.results4 rfl fun w0 S0 hK0=>?_;refine wa ?_;exact⟨.d rfl (.inl rfl),trivial⟩
end
end Go.Proofs.YtbbpecfapohlaaaGreatDoor
