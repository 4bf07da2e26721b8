import Derived.Test.YtbbpecfapohlaaaGreatDoorPfG
import Derived.Test.YtbbpecfapohlaaaGreatDoorPfS
import Derived.Test.YtbbpecfapohlaaaGreatDoorOpenT
set_option maxRecDepth 100000
set_option maxHeartbeats 8000000
namespace Go.Proofs.YtbbpecfapohlaaaGreatDoor
open Go.RowKit
attribute [local irreducible] AC Do St
theorem stL_o{l:List SN}(hl:∀ s∈l,okSA s):∀ s∈stL l,StO s:=fun s hs=>by
 have hsm:=stL_sm (fun s h=>(hl s h).1) s hs;obtain⟨n,hn,rfl⟩:=List.mem_map.1 hs;obtain⟨_,h1,h2,h3,h4⟩:=hl n (List.mem_of_mem_take hn);have e1:(stS n).cl.length≤40:=by show (n.cl.take 40).length≤_;simp;omega
 have e2:(stS n).pr.length≤40:=by show (n.pr.take 40).length≤_;simp;omega
 have e3:(stS n).tm.length≤40:=by rw[stS_tm];simp;omega
 exact⟨h1,h2,fun x hx=>h3 x (List.mem_of_mem_take hx),fun x hx=>h4 x (List.mem_of_mem_take hx),e1,e2,e3,hsm.1⟩
theorem varZ(v:Int):Fn Tryz.prog 69 [.d (.v (.int .i64 v))] [.g (enE ⟨[(v,1)],0⟩)]:=by
 have h1:=ratInt 1 (by omega) (by omega);refine Fn.of Tryz.func69 rfl (by kernel_rfl) Tryz.ntmps69 Tryz.results69 rfl fun w0 S0=>?_;refine wk ?_;refine c1 h1 ?_;refine wk ?_;exact⟨.cn rfl rfl inferInstance rfl ⟨.inl rfl,.inl rfl,.inr (by rw[show (0:Rat).num.natAbs=0 from rfl,limbs_zero];rfl),.inr rfl,trivial⟩,trivial⟩
theorem ofZ(q:Rat):Fn Tryz.prog 71 [.g (enR q)] [.g (enE ⟨[],q⟩)]:=by
 refine Fn.of Tryz.func71 rfl (by kernel_rfl) Tryz.ntmps71 Tryz.results71 rfl fun w0 S0=>?_;refine wk ?_;exact⟨.cn rfl rfl inferInstance rfl ⟨.inr rfl,.inl rfl,.inl rfl,.inl rfl,trivial⟩,trivial⟩
theorem subS(a b:Ex)(h1:tb a.t≤1000)(h2:tb b.t≤1000)(h3:bz a.c≤1000)(h4:bz b.c≤1000):Fn Tryz.prog 70 [.g (enE a),.g (enE b)] [.g (enE (subE a b))]:=by
 have g1:=tb_mul (-1) b.t;have g2:bz (-1:Rat)≤1:=bz_le ⟨by decide,by decide⟩;have g3:b.t.length*bz (-1)≤b.t.length*1:=Nat.mul_le_mul_left _ g2;have g4:=tb_len b.t;have g5:=canL_tb (b.t.map (mulT (-1)));have g6:=bz_mul (-1) b.c;exact subTF a b (by omega) (fun t ht=>by have:=tb_mem ht;omega) (by omega) (by show _+tb (canL _)+2≤_;omega) (by show _+bz (-1*b.c)≤_;omega)
section
variable {Kw:World→Prop}[KSt Kw][KHas Kw Tab]
theorem w22_ck:FnK Tryz.prog 19 Kw [.g (enSP w22P),.d (.l (w22S.map enS))] [.d (.v (.int .i64 0)),.d (.v (.int .i64 0))]:=proofCheck w22P w22S w22P_ok w22_sto (by decide) 0 0 0 0 w22_all.1 w22_all.2
theorem w22_ct:FnK Tryz.prog 19 Kw [.g (enSP w22P),.d (.l ((w22S.take 3).map enS))] [.d (.v (.int .i64 3)),.d (.v (.int .i64 7))]:=proofCheck w22P (w22S.take 3) w22P_ok (fun s h=>w22_sto s (List.mem_of_mem_take h)) (by decide) 0 0 3 7 w22_cut.1 w22_cut.2
theorem awake22:FnK Tryz.prog 24 Kw [] [.d (.v (.bool true))]:=by
 have h0:=varZ 0;have h1:=ratInt 1 (by omega) (by omega);have h2:=ratInt 2 (by omega) (by omega);have o1:=ofZ ((1:Int):Rat);have o2:=ofZ ((2:Int):Rat);have s1:=subS ⟨[((0:Int),(1:Rat))],0⟩ ⟨[],((1:Int):Rat)⟩ (by decide+kernel) (by decide+kernel) (by decide+kernel) (by decide+kernel);have s2:=subS ⟨[],((2:Int):Rat)⟩ ⟨[((0:Int),(1:Rat))],0⟩ (by decide+kernel) (by decide+kernel) (by decide+kernel) (by decide+kernel);rw[w22_a]at s1;rw[w22_b]at s2;have c1':=w22_ck (Kw:=Kw);have c2':=w22_ct (Kw:=Kw);refine FnK.of Tryz.func24 rfl (by kernel_rfl) Tryz.ntmps24 Tryz.results24 rfl fun w0 S0 hK0=>?_;refine wa ?_;refine c1 h1 ?_;refine c1 o1 ?_;refine c1 s1 ?_;refine wa ?_;refine c1 h1 ?_;refine c1 h1 ?_;clear h0 h1 h2 o1 o2 s1 s2;refine wa ?_;refine c1 c1' ?_;refine wa ?_;((try (first | intro K ms hms hK | intro K hK));(first | apply Chain.go | apply Chain.goD);exact rfl;exact rfl;exact Loc.partH (i:=3) rfl rfl rfl rfl (by decide));refine c1 c2' ?_;refine wa ?_;exact⟨.d rfl (.inl rfl),trivial⟩
end
section
variable {Kw:World→Prop}[KSt Kw][KHas Kw Tab]
theorem proofChecksF(p:PN)(hp:okPN p)(l:List SN)(hl:∀ s∈l,okSA s)(t:Bool):FnK Tryz.prog 3 Kw [.g (enPN p),.d (.l (l.map enSN)),.d (.v (.bool t))] [.d (.v (.bool true))]:=by
 have hof:=of14 p hp;have hok:=spN_ok hp;have hS:=of22 l (fun s h=>(hl s h).1);have hSo:=stL_o hl;have hSl:=stL_len l;have haw:=awake22 (Kw:=Kw);have ht2:=told22k (k:=256) (by omega) (stL l) (fun s h=>(hSo s h).k) (by omega);generalize spN p=x at hof hok;generalize stL l=S at hS hSo hSl ht2;have hti:FnK Tryz.prog 16 Kw [.g (enSP x)] (tiR x):=(smtTidy x hok).low;unfold tiR at hti;clear hl hp;cases t with
 | false=>
   obtain⟨k,e,hf⟩:=folR_ex x S;obtain⟨m,f,hc⟩:=cheR_ex S k e;have q1:=proofFollow (Kw:=Kw) x S hok hSo hSl k e hf;have q2:=proofCheck (Kw:=Kw) x S hok hSo hSl k e m f hf hc;have q3:=follow22 x S hok hSo hSl k e hf;have q4:=check22 x S hok hSo hSl k e m f hf hc;have q5:=told14 x hok;clear hti hf hc hSo;refine FnK.of Tryz.func3 rfl (by kernel_rfl) Tryz.ntmps3 Tryz.results3 rfl fun w0 S0 hK0=>?_;refine wa ?_;exact⟨.d rfl (.inl rfl),trivial⟩
 | true=>
   by_cases h0:looP x=0
   ·rw[if_pos h0]at hti;have hok2:=(tidP_ok hok (looP_zero h0)).1;generalize tidP x=y at hti hok2;obtain⟨k,e,hf⟩:=folR_ex y S;obtain⟨m,f,hc⟩:=cheR_ex S k e;have q1:=proofFollow (Kw:=Kw) y S hok2 hSo hSl k e hf;have q2:=proofCheck (Kw:=Kw) y S hok2 hSo hSl k e m f hf hc;have q3:=follow22 y S hok2 hSo hSl k e hf;have q4:=check22 y S hok2 hSo hSl k e m f hf hc;have q5:=told14 y hok2;clear hf hc hSo;refine FnK.of Tryz.func3 rfl (by kernel_rfl) Tryz.ntmps3 Tryz.results3 rfl fun w0 S0 hK0=>?_;refine wa ?_;exact⟨.d rfl (.inl rfl),trivial⟩
   ·rw[if_neg h0]at hti;obtain⟨k,e,hf⟩:=folR_ex x S;obtain⟨m,f,hc⟩:=cheR_ex S k e;have q1:=proofFollow (Kw:=Kw) x S hok hSo hSl k e hf;have q2:=proofCheck (Kw:=Kw) x S hok hSo hSl k e m f hf hc;have q3:=follow22 x S hok hSo hSl k e hf;have q4:=check22 x S hok hSo hSl k e m f hf hc;have q5:=told14 x hok;generalize looP x=v at hti h0;clear hf hc hSo;refine FnK.of Tryz.func3 rfl (by kernel_rfl) Tryz.ntmps3 Tryz.results3 rfl fun w0 S0 hK0=>?_;refine wa ?_;exact⟨.d rfl (.inl rfl),trivial⟩
end
theorem holds22(p:SP)(c:List Int)(xs:List Rat)(bs:List Bool)(ha:∀ a∈p.a,OkAt a)(hn:p.a.length≤1000)(hk:∀ l∈c,knoL p.b p.a.length l)(hx:OkXs xs)(hc:c.length≤1000)(R:Bool)(hR:R=true↔hoC p xs bs c):Fn Tryz.prog 28 [.g (enSPQ p),.d (enZ c),.d (.l (xs.map enQ)),.d (enBs bs)] [.d (.v (.bool R))]:=by
 have hlc:(c.map zI).length=c.length:=List.length_map ..;have htr:=fun l hl=>true14 p l xs bs ha hn (hk l hl) hx;refine Fn.of Tryz.func28 rfl (by kernel_rfl) Tryz.ntmps28 Tryz.results28 rfl fun w0 S0=>?_;refine wa ?_;refine AC.loop (X:=Nat) (fun i=>⟨[(2,.d (.l (xs.map enQ))),(3,.d (enBs bs)),(4,.p 4 0),(11,.d (enZ c)),(12,.d (.v (.int .i64 (c.length:Int)))),(13,.d (.v (.int .i64 (i:Int))))],[(4,.box 42 ((enSPQ p).map .d))]⟩) (fun i=>i≤c.length∧∀ l∈c.take i,truB p xs bs l=false) (fun i=>c.length-i) 0 ⟨Nat.zero_le _,by simp⟩ ⟨rfl,rfl,rfl,rfl,rfl,rfl,trivial⟩ ⟨rfl,trivial⟩ ?_;intro i ⟨hi,hz⟩;dsimp only at hi hz ⊢;by_cases h1:i<c.length
 ·have gl:=List.getElem?_eq_getElem h1;have ht:=htr _ (List.getElem_mem h1);have hal:=fun h=>all_take (P:=fun l=>truB p xs bs l=false) h1 hz h;have hyes:truB p xs bs c[i]=true→R=true:=fun h=>hR.2 ⟨_,List.getElem_mem h1,h⟩;generalize c[i]=l at gl ht hal hyes;generalize truB p xs bs l=b at ht hal hyes;clear hR htr hz;cases b with
  | true=>
    obtain rfl:=hyes rfl;clear hal hyes;refine wa ?_;exact⟨.d rfl (.inl rfl),trivial⟩
  | false=>
    have hn:=hal rfl;clear hal hyes;refine wa ?_;exact⟨i+1,⟨h1,hn⟩,by omega,⟨rfl,rfl,rfl,rfl,rfl,rfl,trivial⟩,⟨rfl,trivial⟩⟩
 ·rw[List.take_of_length_le (by omega)]at hz;have hf:R=false:=by
   cases R with
   | false=>rfl
   | true=>
     obtain⟨l,hl,h⟩:=hR.1 rfl;rw[hz l hl]at h;cases h
  subst hf;clear hR hz htr;refine wa ?_;exact⟨.d rfl (.inl rfl),trivial⟩
end Go.Proofs.YtbbpecfapohlaaaGreatDoor
