import Derived.Test.YtbbpecfapohlaaaGreatDoorPqA
set_option maxRecDepth 100000
set_option maxHeartbeats 8000000
namespace Go.Proofs.YtbbpecfapohlaaaGreatDoor
open Go.RowKit
attribute [local irreducible] AC Do St
theorem sameL22(a b:List Int)(hl:a.length≤1000000000):Fn Tryz.prog 30 [.d (enZ a),.d (enZ b)] [.d (.v (.bool (decide (a=b))))]:=by
 have hla:(a.map zI).length=a.length:=List.length_map ..;have hlb:(b.map zI).length=b.length:=List.length_map ..;by_cases h1:a.length=b.length
 ·obtain⟨R,hR⟩:∃ R,decide (a=b)=R:=⟨_,rfl⟩
  have hyes:a=b→R=true:=fun h=>by rw[←hR,decide_eq_true h]
  have hno:¬ a=b→R=false:=fun h=>by rw[←hR,decide_eq_false h]
  rw[hR];clear hR;refine Fn.of Tryz.func30 rfl (by kernel_rfl) Tryz.ntmps30 Tryz.results30 rfl fun w0 S0=>?_;refine wa ?_;refine AC.loop (X:=Nat) (fun i=>⟨[(0,.d (enZ a)),(1,.d (enZ b)),(12,.d (.v (.int .i64 (a.length:Int)))),(13,.d (.v (.int .i64 (i:Int))))],[]⟩) (fun i=>i≤a.length∧a.take i=b.take i) (fun i=>a.length-i) 0 ⟨Nat.zero_le _,rfl⟩ ⟨rfl,rfl,rfl,rfl,trivial⟩ trivial ?_;intro i ⟨hi,he⟩;dsimp only at hi he ⊢;by_cases h6:i<a.length
  ·have h7:i<b.length:=by omega
   have gx:=List.getElem?_eq_getElem h6;have gy:=List.getElem?_eq_getElem h7;have ge:a[i]=b[i]→a.take (i+1)=b.take (i+1):=fun h=>by rw[List.take_succ_eq_append_getElem h6,List.take_succ_eq_append_getElem h7,he,h]
   have gn:¬ a[i]=b[i]→¬ a=b:=fun h h2=>h (by subst h2;rfl);generalize a[i]=u at gx ge gn;generalize b[i]=v at gy ge gn;by_cases k3:u=v
   ·refine wa ?_;exact⟨i+1,⟨h6,ge k3⟩,by omega,⟨rfl,rfl,rfl,rfl,trivial⟩,trivial⟩
   ·rw[hno (gn k3)];refine wa ?_;exact⟨.d rfl (.inl rfl),trivial⟩
  ·rw[List.take_of_length_le (by omega),List.take_of_length_le (by omega)]at he;rw[hyes he];refine wa ?_;exact⟨.d rfl (.inl rfl),trivial⟩
 ·rw[decide_eq_false fun h=>h1 (by rw[h])];refine Fn.of Tryz.func30 rfl (by kernel_rfl) Tryz.ntmps30 Tryz.results30 rfl fun w0 S0=>?_;refine wa ?_;exact⟨.d rfl (.inl rfl),trivial⟩
section
variable {Kw:World→Prop}[KSt Kw][KHas Kw Tab]
theorem proofLendsF(p:PN)(hp:okPN p)(l:List SN)(hl:∀ s∈l,okSA s):FnK Tryz.prog 5 Kw [.g (enPN p),.d (.l (l.map enSN))] [.d (.v (.bool true))]:=by
 have hof:=of14 p hp;have hok:=spN_ok hp;have hS:=of22 l (fun s h=>(hl s h).1);have hSo:=stL_o hl;have hSl:=stL_len l;have haw:=awake22 (Kw:=Kw);generalize spN p=x at hof hok;generalize stL l=S at hS hSo hSl;have hti:FnK Tryz.prog 16 Kw [.g (enSP x)] (tiR x):=(smtTidy x hok).low;unfold tiR at hti;clear hl hp;by_cases h0:looP x=0
 ·rw[if_pos h0]at hti;obtain⟨hok2,hch⟩:=tidP_ok hok (looP_zero h0);generalize tidP x=y at hti hok2 hch;have hto:=told14 y hok2;have hsm:=same14 y hok2 hch;obtain⟨k,e,hf⟩:=folR_ex y S;obtain⟨m,f,hc⟩:=cheR_ex S k e;have q2:=proofCheck (Kw:=Kw) y S hok2 hSo hSl k e m f hf hc;have hll:(S.map enS).length=S.length:=List.length_map ..;have hgo:∀ i (h:i<S.length),Fn Tryz.prog 30 [.d (enZ S[i].cl),.d (enZ S[i].cl)] [.d (.v (.bool true))]∧Fn Tryz.prog 30 [.d (enZ S[i].pr),.d (enZ S[i].pr)] [.d (.v (.bool true))]∧Fn Tryz.prog 26 [.d (.l (S[i].tm.map enR))] [.d (.l (S[i].tm.map enQ))]∧Fn Tryz.prog 31 [.d (.l (S[i].tm.map enQ)),.d (.l (S[i].tm.map enQ))] [.d (.v (.bool true))]:=fun i h=>by
   have hsi:=hSo _ (List.getElem_mem h);have r1:=sameL22 S[i].cl S[i].cl (by have:=hsi.cn;omega);have r2:=sameL22 S[i].pr S[i].pr (by have:=hsi.pn;omega);have r3:=nums S[i].tm 256 (by omega) hsi.bd (by have:=hsi.tn;omega);have r4:=ratsK (k:=256) (by omega) S[i].tm S[i].tm (by have:=hsi.tn;omega) hsi.bd hsi.bd;rw[decide_eq_true rfl]at r1 r2 r4;exact⟨r1,r2,r3,r4⟩
  clear hf hc hSo hok hok2 hch;refine FnK.of Tryz.func5 rfl (by kernel_rfl) Tryz.ntmps5 Tryz.results5 rfl fun w0 S0 hK0=>?_;refine wa ?_;refine AC.loop (X:=Nat) (fun i=>⟨[(7,.d (.l (S.map enS))),(8,.d (.l (S.map enS))),(52,.d (.v (.int .i64 (S.length:Int)))),(53,.d (.v (.int .i64 (i:Int))))],[]⟩) (fun i=>i≤S.length) (fun i=>S.length-i) 0 (Nat.zero_le _) ⟨rfl,rfl,rfl,rfl,trivial⟩ trivial ?_;intro i hi;dsimp only at hi ⊢;by_cases h1:i<S.length
  ·have gl:=List.getElem?_eq_getElem h1;obtain⟨r1,r2,r3,r4⟩:=hgo i h1;generalize S[i]=s at gl r1 r2 r3 r4;clear hgo hti q2 hof hS hto hsm;refine wa ?_;refine c1 r1 ?_;refine wa ?_;exact⟨i+1,h1,by omega,⟨rfl,rfl,rfl,rfl,trivial⟩,trivial⟩
  ·clear hgo hti q2 hof hS hto hsm;refine wa ?_;exact⟨.d rfl (.inl rfl),trivial⟩
 ·rw[if_neg h0]at hti;generalize looP x=v at hti h0;refine FnK.of Tryz.func5 rfl (by kernel_rfl) Tryz.ntmps5 Tryz.results5 rfl fun w0 S0 hK0=>?_;refine wa ?_;exact⟨.d rfl (.inl rfl),trivial⟩
end
end Go.Proofs.YtbbpecfapohlaaaGreatDoor
