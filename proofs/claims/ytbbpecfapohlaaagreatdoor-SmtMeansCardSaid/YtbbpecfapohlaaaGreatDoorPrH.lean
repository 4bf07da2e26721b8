import Derived.Test.YtbbpecfapohlaaaGreatDoorPrG
namespace Go.Proofs.YtbbpecfapohlaaaGreatDoor
open Go.RowKit
section
theorem Chain.pin2{P:Program}{C:Cx}{E:List (Nat×AV)}{O:List (Nat×AO)}{ops:Array Oper}{fin:List Inf→Prop}{Q:AS→Prop}{rest:List Oper}{T:TypeId}(t2 t id:Nat)(cs:List D)(ht:get? E t=some (.p id 0))(ht2:get? E t2=some (.p id 0))(hO:get? O id=some (.box T (cs.map .d)))
  (h:∀ b,Chain P C ops fin Q none rest ⟨(t2,.d (.v (.pointer (some ⟨b,0,none⟩))))::(t,.d (.v (.pointer (some ⟨b,0,none⟩))))::E,(id,boxO b T cs)::O⟩):Chain P C ops fin Q none rest ⟨E,O⟩:=by
 refine .any (fun σ'=>∃ b,σ'=⟨(t2,.d (.v (.pointer (some ⟨b,0,none⟩))))::(t,.d (.v (.pointer (some ⟨b,0,none⟩))))::E,(id,boxO b T cs)::O⟩) (fun a w ⟨β,hi⟩=>?_) (by rintro _ ⟨b,rfl⟩;exact h b)
 obtain⟨b,us,h1,h2,h3,h4,h5⟩:=hi.obj id _ hO
 obtain⟨u,hu1,hu2⟩:=hi.env t _ ht
 obtain⟨b',hb1,hu3⟩:=hu2 _ _ hO
 rw[h1]at hb1
 cases hb1
 obtain⟨u2,hv1,hv2⟩:=hi.env t2 _ ht2
 obtain⟨b2,hb2,hv3⟩:=hv2 _ _ hO
 rw[h1]at hb2
 cases hb2
 refine⟨_,⟨b,rfl⟩,β,?_⟩
 have hg:∀ i o',get? ((id,boxO b T cs)::O) i=some o'→(i=id∧o'=boxO b T cs)∨(i≠id∧get? O i=some o'):=fun i o' hi=>by
  rw[get?_cons]at hi
  by_cases e:id=i
  ·rw[if_pos e]at hi;injection hi with hi;exact .inl ⟨e.symm,hi.symm⟩
  ·rw[if_neg e]at hi;exact .inr ⟨Ne.symm e,hi⟩
 have hobj:∀ i o',get? ((id,boxO b T cs)::O) i=some o'→∃ o2,get? O i=some o2:=fun i o' hi=>by
  rcases hg i o' hi with ⟨e,_⟩ | ⟨_,h⟩
  ·subst e;exact⟨_,hO⟩
  ·exact⟨_,h⟩
 have hD:∀ c,Dat C β O w c→Dat C β ((id,boxO b T cs)::O) w c∧w.heap[c]?=w.heap[c]?:=fun c hc=>⟨⟨hc.1,hc.2.1,fun i o' hi=>by
  obtain⟨o2,h⟩:=hobj i o' hi
  exact hc.2.2 i o2 h⟩,rfl⟩
 have hA:∀ {u:Value} {x:AV},RA (Dat C β O w) w β O u x→RA (Dat C β ((id,boxO b T cs)::O) w) w β ((id,boxO b T cs)::O) u x:=fun h=>
  h.keep hD (fun i T' cs' hi=>by
   rcases hg i _ hi with ⟨_,h2⟩ | ⟨_,h2⟩
   ·cases h2
   ·exact⟨⟨T',cs',h2⟩,rfl⟩) (fun i g e k xs hi=>by
   rcases hg i _ hi with ⟨_,h2⟩ | ⟨_,h2⟩
   ·cases h2
   ·exact⟨g,e,k,xs,h2,Nat.le_refl _,fun _=>⟨rfl,rfl⟩⟩)
 refine⟨hi.defs,hi.nt,hi.os,hi.tape,hi.output,hi.size,hi.fr,fun t' v' ht'=>?_,fun i o' hid=>?_,fun i j oi oj c q1 q2 q3 q4=>?_,fun i oi c q1 q2=>?_,fun i x o' q1 q2 q3=>?_⟩
 ·simp only[get?_cons]at ht'
  by_cases e2:t2=t'
  ·rw[if_pos e2]at ht'
   cases ht'
   exact⟨u2,e2▸hv1,by rw[hv3];exact .v rfl⟩
  ·rw[if_neg e2]at ht'
   by_cases e:t=t'
   ·rw[if_pos e]at ht'
    cases ht'
    exact⟨u,e▸hu1,by rw[hu3];exact .v rfl⟩
   ·rw[if_neg e]at ht'
    obtain⟨u',p1,p2⟩:=hi.env t' v' ht'
    exact⟨u',p1,hA p2⟩
 ·rcases hg i o' hid with ⟨e,e2⟩ | ⟨_,hid⟩
  ·subst e e2
   refine⟨h1,⟨us,h2,h3.trans (by simp),fun j hj hj'=>?_⟩,boxR_stable b T cs⟩
   have:=h5 j hj (by simpa using hj')
   rw[List.getElem_map]at this
   exact RD.mono this fun c hc=>(hD c hc).1
  ·have h1:=hi.obj i o' hid
   cases o' with
   | box T2 cs2=>
     obtain⟨b2,us2,q1,q2,q3,q4,q5⟩:=h1
     exact⟨b2,us2,q1,q2,q3,q4,fun j hj hj'=>hA (q5 j hj hj')⟩
   | row g e2 k xs=>
     obtain⟨css,q1,q2,q3,q4⟩:=h1
     exact⟨css,q1,fun j hj hj'=>(q2 j hj hj').mono fun c hc=>(hD c hc).1,q3,q4⟩
   | dead=>trivial
   | own x R=>exact⟨h1.1,h1.2.2 _ _ _ _ h1.2.1 hD fun _ _=>rfl,h1.2.2⟩
 ·obtain⟨o2,p1⟩:=hobj i oi q1
  obtain⟨o3,p2⟩:=hobj j oj q2
  exact hi.dis i j o2 o3 c p1 p2 q3 q4
 ·obtain⟨o2,p1⟩:=hobj i oi q1
  exact hi.own i o2 c p1 q2
 ·rcases hg _ o' q2 with ⟨e,e2⟩ | ⟨_,q2⟩
  ·exact hi.pin i x _ q1 (e▸hO) rfl
  ·exact hi.pin i x o' q1 q2 q3
end
attribute [local irreducible] AC Do St
set_option maxRecDepth 100000 in
set_option maxHeartbeats 16000000 in
theorem rdList(b:Nat)(src:List UInt8)(hs:src.length≤1000000):∀ (F f:Nat),f≤F→∀ (i d:Nat) (n:Int),i≤src.length→src.length-i<f→d≤200→0≤n→n≤100000→FnO Tryz.prog 81 (fun _=>True) (rdR b src i n 0 0) [.d (.v (ptv b 0)),.d (.v (.int .i64 (d:Int)))] (liQ b src (parseX f d (src.drop i) n)):=by
 intro F
 induction F with
 | zero=>intro f hfF i d n h1 h2;omega
 | succ F ih=>
 intro f hfF i0 d n0 hi0 hf0 hdd hn0 hn1
 obtain⟨f0,rfl⟩:∃ f0,f=f0+1:=⟨f-1,by omega⟩
 obtain⟨R,hR⟩:∃ R,parseX (f0+1) d (src.drop i0) n0=R:=⟨_,rfl⟩
 rw[hR]
 have hR0:PX.app [] (parseX (f0+1) d (src.drop (src.length-(skX false (src.drop i0)).length)) n0)=R:=by
  rw[app_nil,suf_drop ((skX_suf false _).trans (List.drop_suffix ..)),parseX_sk,hR]
 have hj0:skX false (src.drop (src.length-(skX false (src.drop i0)).length))=src.drop (src.length-(skX false (src.drop i0)).length):=by
  rw[suf_drop ((skX_suf false _).trans (List.drop_suffix ..)),skX_idem]
 have hk0:=rdSkip b src i0 hi0 hs n0 0 0
 have hsl0:=skX_len false (src.drop i0)
 have hdl0:(src.drop i0).length=src.length-i0:=List.length_drop
 generalize hJ:src.length-(skX false (src.drop i0)).length=j0 at hR0 hj0 hk0
 refine FnO.of Tryz.func81 rfl (by kernel_rfl) Tryz.ntmps81 Tryz.results81 rfl rfl fun w0 S0 vs hS hv hKW=>⟨_,fun t v h=> .inl h,?_⟩
 refine wr ?_
 (first | intro K ms hms hK | intro K hK | skip)
 refine Chain.callO [200] hk0 rfl rfl rfl (by decide) rfl (rd_get rfl) ⟨.inl rfl,trivial⟩ (fun _ _ _ _ _ _=>trivial) (fun post res hpq _=>?_)
 obtain⟨rfl,rfl⟩:=hpq
 refine wr ?_
 refine AC.rowVar 5 90 98 3 rfl rfl ?_
 refine AC.loop (X:=Nat×Int×Int×Int×List ST×Nat) (fun x=>⟨[(0,.d (.v (ptv b 0))),(1,.d (.v (.int .i64 (d:Int)))),(5,.r 90 x.2.2.2.2.2)],[(200,rdO b src x.1 x.2.1 x.2.2.1 x.2.2.2.1),(90,.row x.2.2.2.2.2 98 3 (x.2.2.2.2.1.map enX))]⟩) (fun x=>x.1≤src.length∧x.2.2.2.2.1.length≤1000001∧((x.2.2.1=0∧x.2.2.2.1=0∧x.2.2.2.2.1.length≤x.1∧0≤x.2.1∧x.2.1≤100000∧skX false (src.drop x.1)=src.drop x.1∧∃ g,src.length-x.1<g∧g≤f0+1∧PX.app x.2.2.2.2.1 (parseX g d (src.drop x.1) x.2.1)=R)∨(x.2.2.1≠0∧∃ left,R= .bad x.2.2.1 left∧x.2.2.2.1=((src.length-left:Nat):Int)))) (fun x=>if x.2.2.1=0 then src.length-x.1+1 else 0) (j0,n0,0,0,[],0) ⟨by dsimp only;omega,Nat.zero_le _,.inl ⟨rfl,rfl,Nat.zero_le _,hn0,hn1,hj0,f0+1,by dsimp only;omega,Nat.le_refl _,hR0⟩⟩ ⟨rfl,rfl,rfl,trivial⟩ ⟨rfl,rfl,trivial⟩ ?_
 intro ⟨j,n,e,p,out,gen⟩ ⟨hj,hol,hcase⟩
 dsimp only at hj hol hcase ⊢
 have hmo:(out.map enX).length=out.length:=List.length_map ..
 rcases hcase with ⟨rfl,rfl,hol2,hn0,hn1,hsk,g,hg1,hg2,hgo⟩ | ⟨he,left,hRb,hpl⟩
 rotate_left
 ·refine wr ?_
  refine rd_retQ (r:=[.d (.l [])]) ?_ rfl ⟨.d rfl (.inr rfl),trivial⟩
  rw[hRb,hpl]
  exact⟨j,n,[],hj,rfl,rfl⟩
 obtain⟨g,rfl⟩:∃ g',g=g'+1:=⟨g-1,by omega⟩
 cases hS:src.drop j with
 | nil=>
   have hje:j=src.length:=by
    have:=congrArg List.length hS
    simp at this
    omega
   rw[hS,parseX,show skX false []=[]from rfl]at hgo
   dsimp only at hgo
   by_cases k0:0<d
   ·rw[if_pos k0]at hgo
    replace hgo:PX.bad 3 0=R:=hgo
    refine AC.frzVar 5 rfl rfl ?_
    refine wr ?_
    ((try (first | intro K ms hms hK | intro K hK));(first | apply Chain.go | apply Chain.goD);exact rfl;exact rfl;exact Loc.strLen rfl rfl (by kernel_rfl))
    rw[tx_size]
    refine wr ?_
    (first | intro K ms hms hK | intro K hK | skip)
    refine Chain.callO [200] (rdFail b src j n 0 0 j 3) rfl rfl rfl (by decide) rfl (rd_get rfl) ⟨.inl rfl,.inl rfl,.inl rfl,trivial⟩ (fun _ _ _ _ _ _=>trivial) (fun post res hpq _=>?_)
    obtain⟨rfl,rfl⟩:=hpq
    refine wr ?_
    refine rd_retQ (r:=[.d (.l (out.map enX))]) ?_ rfl ⟨.d rfl (.inl rfl),trivial⟩
    rw[←hgo]
    exact⟨j,n,out,hj,by rw[show src.length-0=j from by omega];rfl,rfl⟩
   ·rw[if_neg k0]at hgo
    replace hgo:PX.ok (out++[]) [] n=R:=hgo
    rw[List.append_nil]at hgo
    refine AC.frzVar 5 rfl rfl ?_
    refine wr ?_
    ((try (first | intro K ms hms hK | intro K hK));(first | apply Chain.go | apply Chain.goD);exact rfl;exact rfl;exact Loc.strLen rfl rfl (by kernel_rfl))
    rw[tx_size]
    refine wr ?_
    refine rd_retQ (r:=[.d (.l (out.map enX))]) ?_ rfl ⟨.d rfl (.inl rfl),trivial⟩
    rw[←hgo]
    exact⟨by rw[show src.length-([]:List UInt8).length=j from by simp;omega],rfl⟩
 | cons c r=>
   have hjl:j<src.length:=by
    rcases Nat.lt_or_ge j src.length with h | h
    ·exact h
    ·rw[List.drop_of_length_le h]at hS
     cases hS
   have hc:src[j]?=some c:=by
    have:=List.getElem?_drop (xs:=src) (i:=j) (j:=0)
    rw[hS]at this
    simpa using this.symm
   have hrl:r.length+1=src.length-j:=by
    have:=congrArg List.length hS
    simp at this
    omega
   have hcb:=UInt8.toNat_lt c
   rw[hS]at hgo hsk
   by_cases k1:c.toNat=41
   ·rw[parseX,hsk]at hgo
    dsimp only at hgo
    rw[if_pos k1]at hgo
    by_cases k2:d=0
    ·rw[if_pos k2]at hgo
     replace hgo:PX.bad 3 (r.length+1)=R:=hgo
     refine AC.frzVar 5 rfl rfl ?_
     refine wr ?_
     ((try (first | intro K ms hms hK | intro K hK));(first | apply Chain.go | apply Chain.goD);exact rfl;exact rfl;exact Loc.strLen rfl rfl (by kernel_rfl))
     rw[tx_size]
     refine wr ?_
     ((try (first | intro K ms hms hK | intro K hK));(first | apply Chain.go | apply Chain.goD);exact rfl;exact rfl;exact Loc.strAt (c:=c) j rfl rfl rfl rfl hc (by kernel_rfl))
     refine wr ?_
     (first | intro K ms hms hK | intro K hK | skip)
     refine Chain.callO [200] (rdFail b src j n 0 0 j 3) rfl rfl rfl (by decide) rfl (rd_get rfl) ⟨.inl rfl,.inl rfl,.inl rfl,trivial⟩ (fun _ _ _ _ _ _=>trivial) (fun post res hpq _=>?_)
     obtain⟨rfl,rfl⟩:=hpq
     refine wr ?_
     refine rd_retQ (i:=j+1) (n:=n) (e:=3) (p:=(j:Int)) (r:=[.d (.l (out.map enX))]) ?_ rfl ⟨.d rfl (.inl rfl),trivial⟩
     rw[←hgo]
     exact⟨j+1,n,out,hjl,by rw[show src.length-(r.length+1)=j from by omega],rfl⟩
    ·rw[if_neg k2]at hgo
     replace hgo:PX.ok (out++[]) r n=R:=hgo
     rw[List.append_nil]at hgo
     refine AC.frzVar 5 rfl rfl ?_
     refine wr ?_
     ((try (first | intro K ms hms hK | intro K hK));(first | apply Chain.go | apply Chain.goD);exact rfl;exact rfl;exact Loc.strLen rfl rfl (by kernel_rfl))
     rw[tx_size]
     refine wr ?_
     ((try (first | intro K ms hms hK | intro K hK));(first | apply Chain.go | apply Chain.goD);exact rfl;exact rfl;exact Loc.strAt (c:=c) j rfl rfl rfl rfl hc (by kernel_rfl))
     refine wr ?_
     refine rd_retQ (i:=j+1) (n:=n) (e:=0) (p:=0) (r:=[.d (.l (out.map enX))]) ?_ rfl ⟨.d rfl (.inl rfl),trivial⟩
     rw[←hgo]
     exact⟨by rw[show src.length-r.length=j+1 from by omega],rfl⟩
   by_cases k3:100000<n+1∨(c.toNat=40∧d=200)
   ·rw[parseX,hsk]at hgo
    dsimp only at hgo
    rw[if_neg k1,if_pos k3]at hgo
    replace hgo:PX.bad 2 (r.length+1)=R:=hgo
    by_cases k4:100000<n+1
    ·refine wr ?_
     ((try (first | intro K ms hms hK | intro K hK));(first | apply Chain.go | apply Chain.goD);exact rfl;exact rfl;exact Loc.strLen rfl rfl (by kernel_rfl))
     rw[tx_size]
     refine wr ?_
     ((try (first | intro K ms hms hK | intro K hK));(first | apply Chain.go | apply Chain.goD);exact rfl;exact rfl;exact Loc.strAt (c:=c) j rfl rfl rfl rfl hc (by kernel_rfl))
     refine wr ?_
     (first | intro K ms hms hK | intro K hK | skip)
     refine Chain.callO [200] (rdFail b src j (n+1) 0 0 j 2) rfl rfl rfl (by decide) rfl (rd_get rfl) ⟨.inl rfl,.inl rfl,.inl rfl,trivial⟩ (fun _ _ _ _ _ _=>trivial) (fun post res hpq _=>?_)
     obtain⟨rfl,rfl⟩:=hpq
     refine wr ?_
     refine rd_retQ (r:=[.d (.l [])]) ?_ rfl ⟨.d rfl (.inr rfl),trivial⟩
     rw[←hgo]
     exact⟨j,n+1,[],hj,by rw[show src.length-(r.length+1)=j from by omega];rfl,rfl⟩
    obtain⟨k5,k6⟩:c.toNat=40∧d=200:=by
     rcases k3 with h | h
     ·exact absurd h k4
     ·exact h
    refine wr ?_
    ((try (first | intro K ms hms hK | intro K hK));(first | apply Chain.go | apply Chain.goD);exact rfl;exact rfl;exact Loc.strLen rfl rfl (by kernel_rfl))
    rw[tx_size]
    refine wr ?_
    ((try (first | intro K ms hms hK | intro K hK));(first | apply Chain.go | apply Chain.goD);exact rfl;exact rfl;exact Loc.strAt (c:=c) j rfl rfl rfl rfl hc (by kernel_rfl))
    refine wr ?_
    ((try (first | intro K ms hms hK | intro K hK));(first | apply Chain.go | apply Chain.goD);exact rfl;exact rfl;exact Loc.strAt (c:=c) j rfl rfl rfl rfl hc (by kernel_rfl))
    refine wr ?_
    (first | intro K ms hms hK | intro K hK | skip)
    refine Chain.callO [200] (rdFail b src j (n+1) 0 0 j 2) rfl rfl rfl (by decide) rfl (rd_get rfl) ⟨.inl rfl,.inl rfl,.inl rfl,trivial⟩ (fun _ _ _ _ _ _=>trivial) (fun post res hpq _=>?_)
    obtain⟨rfl,rfl⟩:=hpq
    refine wr ?_
    refine rd_retQ (r:=[.d (.l [])]) ?_ rfl ⟨.d rfl (.inr rfl),trivial⟩
    rw[←hgo]
    exact⟨j,n+1,[],hj,by rw[show src.length-(r.length+1)=j from by omega];rfl,rfl⟩
   have hng:¬ 100000<n+1:=fun h=>k3 (.inl h)
   have hd4:c.toNat=40→¬ d=200:=fun h1 h2=>k3 (.inr ⟨h1,h2⟩)
   have hS1:src.drop (j+1)=r:=by
    have:=congrArg (List.drop 1) hS
    rw[List.drop_drop]at this
    exact this
   rw[parseX_one hsk k1 k3]at hgo
   have hF:=rdOne b src j g d (n+1) c r hS hs hdd (fun h40=>by
    have:=ih g (by omega) (j+1) (d+1) (n+1) (by omega) (by omega) (by have:=hd4 h40;omega) (by omega) (by omega)
    rwa[hS1,show ((d+1:Nat):Int)=(d:Int)+1 from by omega]at this)
   have hok:=oneX_ok (f:=g) (d:=d) (c:=c) (r:=r) (n:=n+1) (by omega) (by omega)
   rw[hS]at hF
   generalize oneX g d (c::r) (n+1)=X at hF hok hgo
   by_cases k4:c.toNat=40
   ·have hd5:=hd4 k4
    refine wr ?_
    ((try (first | intro K ms hms hK | intro K hK));(first | apply Chain.go | apply Chain.goD);exact rfl;exact rfl;exact Loc.strLen rfl rfl (by kernel_rfl))
    rw[tx_size]
    refine wr ?_
    ((try (first | intro K ms hms hK | intro K hK));(first | apply Chain.go | apply Chain.goD);exact rfl;exact rfl;exact Loc.strAt (c:=c) j rfl rfl rfl rfl hc (by kernel_rfl))
    refine wr ?_
    ((try (first | intro K ms hms hK | intro K hK));(first | apply Chain.go | apply Chain.goD);exact rfl;exact rfl;exact Loc.strAt (c:=c) j rfl rfl rfl rfl hc (by kernel_rfl))
    refine wr ?_
    (first | intro K ms hms hK | intro K hK | skip)
    refine Chain.callO [200] hF rfl rfl rfl (by decide) rfl (rd_get rfl) ⟨.inl rfl,.inl rfl,trivial⟩ (fun _ _ _ _ _ _=>trivial) (fun post res hpq _=>?_)
    cases X with
    | ok o rest m=>
      obtain⟨⟨t,rfl⟩,hsuf,hm0,hm1⟩:=hok
      obtain⟨t2,e2,rfl,rfl⟩:=hpq
      cases e2
      replace hgo:PX.app out ((parseX g d rest m).cons t)=R:=hgo
      rw[app_cons]at hgo
      have hsufS:rest <:+ src:=hsuf.trans ((List.suffix_cons c r).trans (by rw[←hS];exact List.drop_suffix ..))
      have hrl2:=hsuf.length_le
      have hk2:=rdSkip b src (src.length-rest.length) (by omega) hs m 0 0
      rw[suf_drop hsufS]at hk2
      have hsl2:=skX_len false rest
      have hdj:=suf_drop ((skX_suf false rest).trans hsufS)
      have hrs:=hsufS.length_le
      rw[←parseX_sk,←hdj]at hgo
      have hsk3:skX false (src.drop (src.length-(skX false rest).length))=src.drop (src.length-(skX false rest).length):=by rw[hdj,skX_idem]
      have hj3:j<src.length-(skX false rest).length∧src.length-(src.length-(skX false rest).length)<g∧src.length-(skX false rest).length≤src.length:=by omega
      generalize src.length-(skX false rest).length=j3 at hk2 hgo hsk3 hj3
      have hts:(out++[t]).map enX=out.map enX++[enX t]:=by rw[List.map_append];rfl
      have hol3:(out++[t]).length=out.length+1:=by simp
      ((try (first | intro K ms hms hK | intro K hK));(first | apply Chain.go | apply Chain.goD);exact rfl;exact rfl;exact Loc.litP rfl rfl rfl rfl rfl rfl rfl)
      refine wr ?_
      (first | intro K ms hms hK | intro K hK | skip)
      refine Chain.callO [200] hk2 rfl rfl rfl (by decide) rfl (rd_get rfl) ⟨.inl rfl,trivial⟩ (fun _ _ _ _ _ _=>trivial) (fun post res hpq _=>?_)
      obtain⟨rfl,rfl⟩:=hpq
      refine wr ?_
      exact⟨(j3,m,0,0,out++[t],gen+1),⟨hj3.2.2,by dsimp only;omega,.inl ⟨rfl,rfl,by dsimp only;omega,hm0,hm1,hsk3,g,hj3.2.1,by omega,hgo⟩⟩,by simp;omega,⟨rfl,rfl,rfl,trivial⟩,⟨rfl,by dsimp only;rw[hts];rfl,trivial⟩⟩
    | bad e left=>
      obtain⟨i2,n2,t,hi2,rfl,rfl⟩:=hpq
      replace hgo:PX.bad e left=R:=hgo
      have hk2:=rdSkip b src i2 hi2 hs n2 e ((src.length-left:Nat):Int)
      have hj3:src.length-(skX false (src.drop i2)).length≤src.length:=Nat.sub_le ..
      generalize src.length-(skX false (src.drop i2)).length=j3 at hk2 hj3
      have hts:(out++[t]).map enX=out.map enX++[enX t]:=by rw[List.map_append];rfl
      have hol3:(out++[t]).length=out.length+1:=by simp
      ((try (first | intro K ms hms hK | intro K hK));(first | apply Chain.go | apply Chain.goD);exact rfl;exact rfl;exact Loc.litP rfl rfl rfl rfl rfl rfl rfl)
      refine wr ?_
      (first | intro K ms hms hK | intro K hK | skip)
      refine Chain.callO [200] hk2 rfl rfl rfl (by decide) rfl (rd_get rfl) ⟨.inl rfl,trivial⟩ (fun _ _ _ _ _ _=>trivial) (fun post res hpq _=>?_)
      obtain⟨rfl,rfl⟩:=hpq
      refine wr ?_
      exact⟨(j3,n2,e,((src.length-left:Nat):Int),out++[t],gen+1),⟨hj3,by dsimp only;omega,.inr ⟨hok.1,left,hgo.symm,rfl⟩⟩,by dsimp only;rw[if_neg hok.1,if_pos rfl];omega,⟨rfl,rfl,rfl,trivial⟩,⟨rfl,by dsimp only;rw[hts];rfl,trivial⟩⟩
   ·refine wr ?_
    ((try (first | intro K ms hms hK | intro K hK));(first | apply Chain.go | apply Chain.goD);exact rfl;exact rfl;exact Loc.strLen rfl rfl (by kernel_rfl))
    rw[tx_size]
    refine wr ?_
    ((try (first | intro K ms hms hK | intro K hK));(first | apply Chain.go | apply Chain.goD);exact rfl;exact rfl;exact Loc.strAt (c:=c) j rfl rfl rfl rfl hc (by kernel_rfl))
    refine wr ?_
    ((try (first | intro K ms hms hK | intro K hK));(first | apply Chain.go | apply Chain.goD);exact rfl;exact rfl;exact Loc.strAt (c:=c) j rfl rfl rfl rfl hc (by kernel_rfl))
    refine wr ?_
    (first | intro K ms hms hK | intro K hK | skip)
    refine Chain.callO [200] hF rfl rfl rfl (by decide) rfl (rd_get rfl) ⟨.inl rfl,.inl rfl,trivial⟩ (fun _ _ _ _ _ _=>trivial) (fun post res hpq _=>?_)
    cases X with
    | ok o rest m=>
      obtain⟨⟨t,rfl⟩,hsuf,hm0,hm1⟩:=hok
      obtain⟨t2,e2,rfl,rfl⟩:=hpq
      cases e2
      replace hgo:PX.app out ((parseX g d rest m).cons t)=R:=hgo
      rw[app_cons]at hgo
      have hsufS:rest <:+ src:=hsuf.trans ((List.suffix_cons c r).trans (by rw[←hS];exact List.drop_suffix ..))
      have hrl2:=hsuf.length_le
      have hk2:=rdSkip b src (src.length-rest.length) (by omega) hs m 0 0
      rw[suf_drop hsufS]at hk2
      have hsl2:=skX_len false rest
      have hdj:=suf_drop ((skX_suf false rest).trans hsufS)
      have hrs:=hsufS.length_le
      rw[←parseX_sk,←hdj]at hgo
      have hsk3:skX false (src.drop (src.length-(skX false rest).length))=src.drop (src.length-(skX false rest).length):=by rw[hdj,skX_idem]
      have hj3:j<src.length-(skX false rest).length∧src.length-(src.length-(skX false rest).length)<g∧src.length-(skX false rest).length≤src.length:=by omega
      generalize src.length-(skX false rest).length=j3 at hk2 hgo hsk3 hj3
      have hts:(out++[t]).map enX=out.map enX++[enX t]:=by rw[List.map_append];rfl
      have hol3:(out++[t]).length=out.length+1:=by simp
      ((try (first | intro K ms hms hK | intro K hK));(first | apply Chain.go | apply Chain.goD);exact rfl;exact rfl;exact Loc.litP rfl rfl rfl rfl rfl rfl rfl)
      refine wr ?_
      (first | intro K ms hms hK | intro K hK | skip)
      refine Chain.callO [200] hk2 rfl rfl rfl (by decide) rfl (rd_get rfl) ⟨.inl rfl,trivial⟩ (fun _ _ _ _ _ _=>trivial) (fun post res hpq _=>?_)
      obtain⟨rfl,rfl⟩:=hpq
      refine wr ?_
      exact⟨(j3,m,0,0,out++[t],gen+1),⟨hj3.2.2,by dsimp only;omega,.inl ⟨rfl,rfl,by dsimp only;omega,hm0,hm1,hsk3,g,hj3.2.1,by omega,hgo⟩⟩,by simp;omega,⟨rfl,rfl,rfl,trivial⟩,⟨rfl,by dsimp only;rw[hts];rfl,trivial⟩⟩
    | bad e left=>
      obtain⟨i2,n2,t,hi2,rfl,rfl⟩:=hpq
      replace hgo:PX.bad e left=R:=hgo
      have hk2:=rdSkip b src i2 hi2 hs n2 e ((src.length-left:Nat):Int)
      have hj3:src.length-(skX false (src.drop i2)).length≤src.length:=Nat.sub_le ..
      generalize src.length-(skX false (src.drop i2)).length=j3 at hk2 hj3
      have hts:(out++[t]).map enX=out.map enX++[enX t]:=by rw[List.map_append];rfl
      have hol3:(out++[t]).length=out.length+1:=by simp
      ((try (first | intro K ms hms hK | intro K hK));(first | apply Chain.go | apply Chain.goD);exact rfl;exact rfl;exact Loc.litP rfl rfl rfl rfl rfl rfl rfl)
      refine wr ?_
      (first | intro K ms hms hK | intro K hK | skip)
      refine Chain.callO [200] hk2 rfl rfl rfl (by decide) rfl (rd_get rfl) ⟨.inl rfl,trivial⟩ (fun _ _ _ _ _ _=>trivial) (fun post res hpq _=>?_)
      obtain⟨rfl,rfl⟩:=hpq
      refine wr ?_
      exact⟨(j3,n2,e,((src.length-left:Nat):Int),out++[t],gen+1),⟨hj3,by dsimp only;omega,.inr ⟨hok.1,left,hgo.symm,rfl⟩⟩,by dsimp only;rw[if_neg hok.1,if_pos rfl];omega,⟨rfl,rfl,rfl,trivial⟩,⟨rfl,by dsimp only;rw[hts];rfl,trivial⟩⟩
def parX(src:List UInt8):List DV:=if 1000000<src.length then [.d (.l []),.d (.v (.int .i64 0)),.d (.v (.int .i64 2))]else match parseX (src.length+1) 0 src 0 with
 | .ok out _ _=>[.d (.l (out.map enX)),.d (.v (.int .i64 0)),.d (.v (.int .i64 0))]
 | .bad e left=>[.d (.l []),.d (.v (.int .i64 ((src.length-left:Nat):Int))),.d (.v (.int .i64 e))]
set_option maxRecDepth 100000 in
set_option maxHeartbeats 4000000 in
theorem sexpParse(src:List UInt8):Fn Tryz.prog 35 [.d (.v (.string (tx src)))] (parX src):=by
 unfold parX
 by_cases hb:1000000<src.length
 ·rw[if_pos hb]
  refine Fn.of Tryz.func35 rfl (by kernel_rfl) Tryz.ntmps35 Tryz.results35 rfl fun w0 S0=>?_
  refine wr ?_
  ((try (first | intro K ms hms hK | intro K hK));(first | apply Chain.go | apply Chain.goD);exact rfl;exact rfl;exact Loc.strLen rfl rfl (by kernel_rfl))
  rw[tx_size]
  refine wr ?_
  exact⟨.d rfl (.inr rfl),.d rfl (.inl rfl),.d rfl (.inl rfl),trivial⟩
 rw[if_neg hb]
 have hL:=fun b=>rdList b src (by omega) (src.length+1) (src.length+1) (Nat.le_refl _) 0 0 0 (Nat.zero_le _) (by omega) (by decide) (by decide) (by decide)
 have hsu:=parseX_suf (src.length+1) 0 src 0
 rw[List.drop_zero]at hL
 generalize parseX (src.length+1) 0 src 0=X at hL hsu ⊢
 refine Fn.of Tryz.func35 rfl (by kernel_rfl) Tryz.ntmps35 Tryz.results35 rfl fun w0 S0=>?_
 refine wr ?_
 ((try (first | intro K ms hms hK | intro K hK));(first | apply Chain.go | apply Chain.goD);exact rfl;exact rfl;exact Loc.strLen rfl rfl (by kernel_rfl))
 rw[tx_size]
 refine wr ?_
 (first | intro K ms hms hK | intro K hK | skip)
 refine Chain.pin2 5 13 12 [.v (.string (tx src)),.v (.int .i64 0),.v (.int .i64 0),.v (.int .i64 0),.v (.int .i64 0)] rfl rfl rfl fun b=>?_
 refine Chain.callO [12] (hL b) rfl rfl rfl (by decide) rfl (rd_get rfl) ⟨.inl rfl,.inl rfl,trivial⟩ (fun _ _ _ _ _ _=>trivial) (fun post res hpq _=>?_)
 cases X with
 | ok out rest m=>
   obtain⟨rfl,rfl⟩:=hpq
   refine wr ?_
   exact⟨.d rfl (.inl rfl),.d rfl (.inl rfl),.d rfl (.inl rfl),trivial⟩
 | bad e left=>
   obtain⟨i2,n2,out,hi2,rfl,rfl⟩:=hpq
   have he:e≠0:=hsu.1
   refine wr ?_
   exact⟨.d rfl (.inr rfl),.d rfl (.inl rfl),.d rfl (.inl rfl),trivial⟩
end Go.Proofs.YtbbpecfapohlaaaGreatDoor
