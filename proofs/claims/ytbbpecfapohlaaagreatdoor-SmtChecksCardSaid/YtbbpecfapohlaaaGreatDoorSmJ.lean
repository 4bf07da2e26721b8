import Derived.Test.YtbbpecfapohlaaaGreatDoorSmI
namespace Go.Proofs.YtbbpecfapohlaaaGreatDoor
open Go.RowKit
attribute [local irreducible] AC Do St
set_option maxRecDepth 100000 in
set_option maxHeartbeats 8000000 in
theorem smtHolds(p:SP)(hp:OkSP p)(xs:List Rat)(bs:List Bool)(hx:OkXs xs):FnK Tryz.prog 45 Tab [.g (enSP p),.d (.l (xs.map enR)),.d (enBs bs)] [.d (.v (.bool (if chkP p=0 then holP p xs bs else false))),.d (.v (.int .i64 (chkP p)))]:=by
 have hch:=smtCheck p hp
 by_cases h0:chkP p=0
 ·rw[if_pos h0,h0]
  rw[h0]at hch
  have hl:=chk_loose hp h0
  have han:=hp.an
  have hcn:=hp.cn
  have hcl:=hp.cl
  have htr:=fun l (hk:knoL p.b p.a.length l)=>smtTruth p l xs bs (fun a ha=>⟨hp.a a ha,(hl.a a ha).1⟩) (by omega) hk hx
  have hkn:=hl.c
  have hR1:(∀c∈p.c,c.any (truB p xs bs)=true)→holP p xs bs=true:=fun h=>List.all_eq_true.2 h
  have hR0:(∃c∈p.c,c.any (truB p xs bs)=false)→holP p xs bs=false:=fun⟨c,h,h1⟩=>by
   cases e:holP p xs bs with
   | false=>rfl
   | true=>rw[List.all_eq_true.1 e c h]at h1;cases h1
  generalize holP p xs bs=R at hR1 hR0
  clear hl hp h0
  have hlc:(p.c.map enCl).length=p.c.length:=List.length_map ..
  refine FnK.of Tryz.func45 rfl (by kernel_rfl) Tryz.ntmps45 Tryz.results45 rfl fun w0 S0 hK0=>?_
  refine wa ?_
  refine AC.loop (X:=Nat) (fun i=>⟨[(1,.d (.l (xs.map enR))),(2,.d (enBs bs)),(3,.p 3 0),(20,.d (.l (p.c.map enCl))),(21,.d (.v (.int .i64 (p.c.length:Int)))),(22,.d (.v (.int .i64 (i:Int))))],[(3,.box 29 ((enSP p).map .d))]⟩) (fun i=>i≤p.c.length∧∀ c∈p.c.take i,c.any (truB p xs bs)=true) (fun i=>p.c.length-i) 0 ⟨Nat.zero_le _,fun l hl=>by simp at hl⟩ ⟨rfl,rfl,rfl,rfl,rfl,rfl,trivial⟩ ⟨rfl,trivial⟩ ?_
  intro i ⟨hi,hg⟩
  dsimp only at hi hg ⊢
  by_cases h5:i<p.c.length
  ·have hgx:=List.getElem?_eq_getElem h5
   have hm:=List.getElem_mem h5
   have hs:p.c[i].any (truB p xs bs)=true→∀ x∈p.c.take (i+1),x.any (truB p xs bs)=true:=all_take' (P:=fun x:List Int=>x.any (truB p xs bs)=true) h5 hg
   have hn:=(hcl _ hm).1
   have hkc:=hkn _ hm
   generalize p.c[i]=x at hgx hs hm hn hkc
   have hlx:(x.map zI).length=x.length:=List.length_map ..
   clear hcl hkn
   refine wa ?_
   refine AC.loop (X:=Nat) (fun j=>⟨[(1,.d (.l (xs.map enR))),(2,.d (enBs bs)),(3,.p 3 0),(11,.d (.v (.bool ((x.take j).any (truB p xs bs))))),(20,.d (.l (p.c.map enCl))),(21,.d (.v (.int .i64 (p.c.length:Int)))),(22,.d (.v (.int .i64 (i:Int)))),(26,.d (enZ x)),(27,.d (.v (.int .i64 (x.length:Int)))),(28,.d (.v (.int .i64 (j:Int))))],[(3,.box 29 ((enSP p).map .d))]⟩) (fun j=>j≤x.length) (fun j=>x.length-j) 0 (Nat.zero_le _) ⟨rfl,rfl,rfl,rfl,rfl,rfl,rfl,rfl,rfl,rfl,trivial⟩ ⟨rfl,trivial⟩ ?_
   intro j hj
   dsimp only at hj ⊢
   by_cases h6:j<x.length
   ·have gx:=List.getElem?_eq_getElem h6
    have ht:=htr _ (hkc _ (List.getElem_mem h6))
    have ha:(x.take (j+1)).any (truB p xs bs)=((x.take j).any (truB p xs bs)||truB p xs bs x[j]):=by
     rw[List.take_succ_eq_append_getElem h6,List.any_append]
     simp
    generalize x[j]=l at gx ht ha
    clear htr
    generalize (x.take j).any (truB p xs bs)=A at ha ⊢
    generalize truB p xs bs l=B at ht ha ⊢
    cases A with
    | true=>
      refine wa ?_
      exact⟨j+1,h6,by omega,⟨rfl,rfl,rfl,by dsimp only;rw[ha];rfl,rfl,rfl,rfl,rfl,rfl,rfl,trivial⟩,⟨rfl,trivial⟩⟩
    | false=>
      refine wa ?_
      exact⟨j+1,h6,by omega,⟨rfl,rfl,rfl,by dsimp only;rw[ha];rfl,rfl,rfl,rfl,rfl,rfl,rfl,trivial⟩,⟨rfl,trivial⟩⟩
   ·rw[List.take_of_length_le (by omega)]
    cases hA:x.any (truB p xs bs)with
    | true=>
      refine wa ?_
      exact⟨i+1,⟨h5,hs hA⟩,by omega,⟨rfl,rfl,rfl,rfl,rfl,rfl,trivial⟩,⟨rfl,trivial⟩⟩
    | false=>
      obtain rfl:=hR0 ⟨x,hm,hA⟩
      refine wa ?_
      exact⟨.d rfl (.inl rfl),.d rfl (.inl rfl),trivial⟩
  ·rw[List.take_of_length_le (by omega)]at hg
   obtain rfl:=hR1 hg
   refine wa ?_
   exact⟨.d rfl (.inl rfl),.d rfl (.inl rfl),trivial⟩
 ·rw[if_neg h0]
  generalize chkP p=E at hch h0
  refine FnK.of Tryz.func45 rfl (by kernel_rfl) Tryz.ntmps45 Tryz.results45 rfl fun w0 S0 hK0=>?_
  refine wa ?_
  exact⟨.d rfl (.inl rfl),.d rfl (.inl rfl),trivial⟩
set_option maxRecDepth 100000 in
set_option maxHeartbeats 8000000 in
theorem holds14(p:SP)(hp:OkSP p)(hl:Loose p)(xs:List Rat)(bs:List Bool)(hx:OkXs xs):Fn Tryz.prog 25 [.g (enSPQ p),.d (.l (xs.map enQ)),.d (enBs bs)] [.d (.v (.bool (holP p xs bs)))]:=by
 have han:=hp.an
 have hcn:=hp.cn
 have hcl:=hp.cl
 have htr:=fun l (hk:knoL p.b p.a.length l)=>true14 p l xs bs hp.a (by omega) hk hx
 have hkn:=hl.c
 have hR1:(∀c∈p.c,c.any (truB p xs bs)=true)→holP p xs bs=true:=fun h=>List.all_eq_true.2 h
 have hR0:(∃c∈p.c,c.any (truB p xs bs)=false)→holP p xs bs=false:=fun⟨c,h,h1⟩=>by
  cases e:holP p xs bs with
  | false=>rfl
  | true=>rw[List.all_eq_true.1 e c h]at h1;cases h1
 generalize holP p xs bs=R at hR1 hR0
 clear hl hp
 have hlc:(p.c.map enCl).length=p.c.length:=List.length_map ..
 refine Fn.of Tryz.func25 rfl (by kernel_rfl) Tryz.ntmps25 Tryz.results25 rfl fun w0 S0=>?_
 refine wa ?_
 refine AC.loop (X:=Nat) (fun i=>⟨[(1,.d (.l (xs.map enQ))),(2,.d (enBs bs)),(3,.p 3 0),(13,.d (.l (p.c.map enCl))),(14,.d (.v (.int .i64 (p.c.length:Int)))),(15,.d (.v (.int .i64 (i:Int))))],[(3,.box 42 ((enSPQ p).map .d))]⟩) (fun i=>i≤p.c.length∧∀ c∈p.c.take i,c.any (truB p xs bs)=true) (fun i=>p.c.length-i) 0 ⟨Nat.zero_le _,fun l hl=>by simp at hl⟩ ⟨rfl,rfl,rfl,rfl,rfl,rfl,trivial⟩ ⟨rfl,trivial⟩ ?_
 intro i ⟨hi,hg⟩
 dsimp only at hi hg ⊢
 by_cases h5:i<p.c.length
 ·have hgx:=List.getElem?_eq_getElem h5
  have hm:=List.getElem_mem h5
  have hs:p.c[i].any (truB p xs bs)=true→∀ x∈p.c.take (i+1),x.any (truB p xs bs)=true:=all_take' (P:=fun x:List Int=>x.any (truB p xs bs)=true) h5 hg
  have hn:=(hcl _ hm).1
  have hkc:=hkn _ hm
  generalize p.c[i]=x at hgx hs hm hn hkc
  have hlx:(x.map zI).length=x.length:=List.length_map ..
  clear hcl hkn
  refine wa ?_
  refine AC.loop (X:=Nat) (fun j=>⟨[(1,.d (.l (xs.map enQ))),(2,.d (enBs bs)),(3,.p 3 0),(9,.d (.v (.bool ((x.take j).any (truB p xs bs))))),(13,.d (.l (p.c.map enCl))),(14,.d (.v (.int .i64 (p.c.length:Int)))),(15,.d (.v (.int .i64 (i:Int)))),(19,.d (enZ x)),(20,.d (.v (.int .i64 (x.length:Int)))),(21,.d (.v (.int .i64 (j:Int))))],[(3,.box 42 ((enSPQ p).map .d))]⟩) (fun j=>j≤x.length) (fun j=>x.length-j) 0 (Nat.zero_le _) ⟨rfl,rfl,rfl,rfl,rfl,rfl,rfl,rfl,rfl,rfl,trivial⟩ ⟨rfl,trivial⟩ ?_
  intro j hj
  dsimp only at hj ⊢
  by_cases h6:j<x.length
  ·have gx:=List.getElem?_eq_getElem h6
   have ht:=htr _ (hkc _ (List.getElem_mem h6))
   have ha:(x.take (j+1)).any (truB p xs bs)=((x.take j).any (truB p xs bs)||truB p xs bs x[j]):=by
    rw[List.take_succ_eq_append_getElem h6,List.any_append]
    simp
   generalize x[j]=l at gx ht ha
   clear htr
   generalize (x.take j).any (truB p xs bs)=A at ha ⊢
   generalize truB p xs bs l=B at ht ha ⊢
   cases A with
   | true=>
     refine wa ?_
     exact⟨j+1,h6,by omega,⟨rfl,rfl,rfl,by dsimp only;rw[ha];rfl,rfl,rfl,rfl,rfl,rfl,rfl,trivial⟩,⟨rfl,trivial⟩⟩
   | false=>
     refine wa ?_
     exact⟨j+1,h6,by omega,⟨rfl,rfl,rfl,by dsimp only;rw[ha];rfl,rfl,rfl,rfl,rfl,rfl,rfl,trivial⟩,⟨rfl,trivial⟩⟩
  ·rw[List.take_of_length_le (by omega)]
   cases hA:x.any (truB p xs bs)with
   | true=>
     refine wa ?_
     exact⟨i+1,⟨h5,hs hA⟩,by omega,⟨rfl,rfl,rfl,rfl,rfl,rfl,trivial⟩,⟨rfl,trivial⟩⟩
   | false=>
     obtain rfl:=hR0 ⟨x,hm,hA⟩
     refine wa ?_
     exact⟨.d rfl (.inl rfl),trivial⟩
 ·rw[List.take_of_length_le (by omega)]at hg
  obtain rfl:=hR1 hg
  refine wa ?_
  exact⟨.d rfl (.inl rfl),trivial⟩
end Go.Proofs.YtbbpecfapohlaaaGreatDoor
