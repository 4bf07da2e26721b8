import Derived.Test.YtbbpecfapohlaaaGreatDoorK3
import Derived.Test.YtbbpecfapohlaaaGreatDoorTy
namespace Go.Proofs.YtbbpecfapohlaaaGreatDoor
open Go.RowKit
attribute [local irreducible] AC Do St
inductive ST where
 | mk (b:Bool) (w:List UInt8) (l:List ST)
def ST.b:ST→Bool
 | .mk b _ _=>b
def ST.w:ST→List UInt8
 | .mk _ w _=>w
def ST.l:ST→List ST
 | .mk _ _ l=>l
mutual
def subX:ST→List (List D)
 | .mk _ _ l=>subXs l
def subXs:List ST→List (List D)
 | []=>[]
 | f::r=>[.v (.bool f.b),.v (.string (tx f.w)),.l (subX f)]::subXs r
end
def enX(f:ST):List D:=[.v (.bool f.b),.v (.string (tx f.w)),.l (subX f)]
theorem subXs_map:∀ s:List ST,subXs s=s.map enX
 | []=>rfl
 | f::r=>by rw[subXs,subXs_map r];rfl
theorem enX_mk(b:Bool)(w:List UInt8)(l:List ST):enX (.mk b w l)=[.v (.bool b),.v (.string (tx w)),.l (l.map enX)]:=by
 unfold enX
 rw[subX,subXs_map]
 rfl
noncomputable def szL (l:List ST):Nat:=SizeOf.sizeOf l
theorem szL_lt{b:Bool}{w:List UInt8}{l s:List ST}(h:ST.mk b w l∈s):szL l<szL s:=by
 have:=List.sizeOf_lt_of_mem h
 unfold szL
 simp only[ST.mk.sizeOf_spec]at this
 omega
mutual
def okX:ST→Prop
 | .mk _ w l=>w.length≤9223372036854775807∧l.length≤9223372036854775807∧okXs l
def okXs:List ST→Prop
 | []=>True
 | f::r=>okX f∧okXs r
end
theorem okXs_mem:∀ {s:List ST},okXs s→∀ g∈s,okX g
 | [],_,g,hg=>nomatch hg
 | f::r,h,g,hg=>by
   rw[okXs]at h
   rcases List.mem_cons.1 hg with rfl | hg
   ·exact h.1
   ·exact okXs_mem h.2 g hg
mutual
def nuX:ST→Int→Nat→Int×Bool
 | .mk b _ l,n,d=>if b=true then(n,true)else nuXs l n (d+1)
def nuXs:List ST→Int→Nat→Int×Bool
 | [],n,_=>(n,true)
 | s::r,n,d=>if 100000<n+1∨(s.b=false∧d=200)then(n+1,false)else if (nuX s (n+1) d).2=true then nuXs r (nuX s (n+1) d).1 d else((nuX s (n+1) d).1,false)
end
theorem nuX_l(w:List UInt8)(l:List ST)(n:Int)(d:Nat):nuX (.mk false w l) n d=nuXs l n (d+1):=by
 rw[nuX]
 exact if_neg (by decide)
theorem nuX_t(w:List UInt8)(l:List ST)(n:Int)(d:Nat):nuX (.mk true w l) n d=(n,true):=by
 rw[nuX]
 exact if_pos rfl
mutual
theorem nuX_rng:∀ (f:ST) (n:Int) (d:Nat),0≤n→n≤100000→0≤(nuX f n d).1∧(nuX f n d).1≤100001∧((nuX f n d).2=true→(nuX f n d).1≤100000)
 | .mk b w l,n,d,h0,h1=>by
   rw[nuX]
   split
   ·dsimp only;omega
   ·exact nuXs_rng l n (d+1) h0 h1
theorem nuXs_rng:∀ (s:List ST) (n:Int) (d:Nat),0≤n→n≤100000→0≤(nuXs s n d).1∧(nuXs s n d).1≤100001∧((nuXs s n d).2=true→(nuXs s n d).1≤100000)
 | [],n,d,h0,h1=>by rw[nuXs];dsimp only;omega
 | f::r,n,d,h0,h1=>by
   rw[nuXs]
   split
   ·refine⟨by dsimp only;omega,by dsimp only;omega,fun h=>nomatch h⟩
   ·rename_i h2
    have h3:n+1≤100000:=by
     have:¬ 100000<n+1:=fun h=>h2 (.inl h)
     omega
    have h4:=nuX_rng f (n+1) d (by omega) h3
    split
    ·rename_i h5
     exact nuXs_rng r _ d h4.1 (h4.2.2 h5)
    ·exact⟨h4.1,h4.2.1,fun h=>nomatch h⟩
end
set_option maxRecDepth 100000 in
set_option maxHeartbeats 4000000 in
theorem sizedX:∀ (m:Nat) (s:List ST),szL s<m→s.length≤9223372036854775807→okXs s→∀ (n:Int) (d:Nat),0≤n→n≤100000→d≤200→Fn Tryz.prog 189 [.d (.l (s.map enX)),.d (.v (.int .i64 n)),.d (.v (.int .i64 (d:Int)))] [.d (.v (.int .i64 (nuXs s n d).1)),.d (.v (.bool (nuXs s n d).2))]:=by
 intro m
 induction m with
 | zero=>intro s h;omega
 | succ m ih=>
 intro s hm hsl hok n d h0 h1 hd
 have hsg:=okXs_mem hok
 obtain⟨R,hR⟩:∃ R,nuXs s n d=R:=⟨_,rfl⟩
 rw[hR]
 refine Fn.of Tryz.func189 rfl (by kernel_rfl) Tryz.ntmps189 Tryz.results189 rfl fun w0 S0=>?_
 refine wk ?_
 refine AC.loop (X:=Nat×Int) (fun x=>⟨[(1,.d (.v (.int .i64 x.2))),(2,.d (.v (.int .i64 (d:Int)))),(11,.d (.l (s.map enX))),(12,.d (.v (.int .i64 (s.length:Int)))),(13,.d (.v (.int .i64 (x.1:Int))))],[]⟩) (fun x=>x.1≤s.length∧0≤x.2∧x.2≤100000∧nuXs (s.drop x.1) x.2 d=R) (fun x=>s.length-x.1) (0,n) ⟨Nat.zero_le _,h0,h1,hR⟩ ⟨rfl,rfl,rfl,rfl,rfl,trivial⟩ trivial ?_
 intro ⟨i,c⟩ ⟨hi,hc0,hc1,hgo⟩
 dsimp only at hi hc0 hc1 hgo ⊢
 refine wk ?_
 refine s1 (fun g1=>?_) (fun g1=>?_)
 ·have hi1:i<s.length:=by omega
  have hx:s[i]?=some s[i]:=List.getElem?_eq_getElem hi1
  rw[List.drop_eq_getElem_cons hi1,nuXs]at hgo
  have hgm:=List.getElem_mem hi1
  generalize s[i]=g at hx hgm hgo
  have ho:=hsg _ hgm
  obtain⟨b,w,l⟩:=g
  have hs:=szL_lt hgm
  rw[okX]at ho
  obtain⟨_,ho1,ho2⟩:=ho
  have hgo:(if 100000<c+1∨(b=false∧d=200)then(c+1,false)else if (nuX (.mk b w l) (c+1) d).2=true then nuXs (s.drop (i+1)) (nuX (.mk b w l) (c+1) d).1 d else((nuX (.mk b w l) (c+1) d).1,false))=R:=hgo
  by_cases g2:100000<c+1
  ·rw[if_pos (.inl g2)]at hgo
   subst hgo
   refine wk ?_
   exact⟨.d rfl (.inl rfl),.d rfl (.inl rfl),trivial⟩
  cases b with
  | true=>
    rw[if_neg (by rintro (h | ⟨h,_⟩);exact g2 h;cases h),nuX_t]at hgo
    dsimp only at hgo
    rw[if_pos rfl]at hgo
    refine wk ?_
    exact⟨(i+1,c+1),⟨hi1,by dsimp only;omega,by dsimp only;omega,hgo⟩,by dsimp only;omega,⟨rfl,rfl,rfl,rfl,rfl,trivial⟩,trivial⟩
  | false=>
    by_cases g3:d=200
    ·rw[if_pos (.inr ⟨rfl,g3⟩)]at hgo
     subst hgo
     refine wk ?_
     exact⟨.d rfl (.inl rfl),.d rfl (.inl rfl),trivial⟩
    rw[if_neg (by rintro (h | ⟨_,h⟩);exact g2 h;exact g3 h),nuX_l]at hgo
    have hf:=ih l (by omega) ho1 ho2 (c+1) (d+1) (by omega) (by omega) (by omega)
    have hb:=nuXs_rng l (c+1) (d+1) (by omega) (by omega)
    rw[←subXs_map,show ((d+1:Nat):Int)=(d:Int)+1 from by omega]at hf
    generalize nuXs l (c+1) (d+1)=T at hf hb hgo
    obtain⟨c2,v⟩:=T
    dsimp only at hf hb hgo
    cases v with
    | true=>
      rw[if_pos rfl]at hgo
      refine wk ?_
      refine c1 hf ?_
      refine wk ?_
      exact⟨(i+1,c2),⟨hi1,hb.1,hb.2.2 rfl,hgo⟩,by dsimp only;omega,⟨rfl,rfl,rfl,rfl,rfl,trivial⟩,trivial⟩
    | false=>
      rw[if_neg (by decide)]at hgo
      subst hgo
      refine wk ?_
      refine c1 hf ?_
      refine wk ?_
      exact⟨.d rfl (.inl rfl),.d rfl (.inl rfl),trivial⟩
 ·rw[List.drop_of_length_le (by omega),nuXs]at hgo
  subst hgo
  refine wk ?_
  exact⟨.d rfl (.inl rfl),.d rfl (.inl rfl),trivial⟩
def plainB(c:UInt8):Bool:=decide (32<c.toNat)&&(decide (c.toNat<127)&&(!decide (c.toNat=40)&&(!decide (c.toNat=41)&&!decide (c.toNat=59))))
set_option maxRecDepth 100000 in
theorem plainF(c:UInt8):Fn Tryz.prog 221 [.d (.v (.int .u8 (c.toNat:Int)))] [.d (.v (.bool (plainB c)))]:=by
 obtain⟨R,hR⟩:∃ R,plainB c=R:=⟨_,rfl⟩
 rw[hR]
 unfold plainB at hR
 have hc:=UInt8.toNat_lt c
 by_cases h1:32<c.toNat
 rotate_left
 ·rw[decide_eq_false h1,Bool.false_and]at hR
  subst hR
  refine Fn.of Tryz.func221 rfl (by kernel_rfl) Tryz.ntmps221 Tryz.results221 rfl fun w0 S0=>?_
  refine wk ?_
  exact⟨.d rfl (.inl rfl),trivial⟩
 rw[decide_eq_true h1,Bool.true_and]at hR
 by_cases h2:c.toNat<127
 rotate_left
 ·rw[decide_eq_false h2,Bool.false_and]at hR
  subst hR
  refine Fn.of Tryz.func221 rfl (by kernel_rfl) Tryz.ntmps221 Tryz.results221 rfl fun w0 S0=>?_
  refine wk ?_
  exact⟨.d rfl (.inl rfl),trivial⟩
 rw[decide_eq_true h2,Bool.true_and]at hR
 by_cases h3:c.toNat=40
 ·rw[decide_eq_true h3,Bool.not_true,Bool.false_and]at hR
  subst hR
  refine Fn.of Tryz.func221 rfl (by kernel_rfl) Tryz.ntmps221 Tryz.results221 rfl fun w0 S0=>?_
  refine wk ?_
  exact⟨.d rfl (.inl rfl),trivial⟩
 rw[decide_eq_false h3,Bool.not_false,Bool.true_and]at hR
 by_cases h4:c.toNat=41
 ·rw[decide_eq_true h4,Bool.not_true,Bool.false_and]at hR
  subst hR
  refine Fn.of Tryz.func221 rfl (by kernel_rfl) Tryz.ntmps221 Tryz.results221 rfl fun w0 S0=>?_
  refine wk ?_
  exact⟨.d rfl (.inl rfl),trivial⟩
 rw[decide_eq_false h4,Bool.not_false,Bool.true_and]at hR
 by_cases h5:c.toNat=59
 ·rw[decide_eq_true h5,Bool.not_true]at hR
  subst hR
  refine Fn.of Tryz.func221 rfl (by kernel_rfl) Tryz.ntmps221 Tryz.results221 rfl fun w0 S0=>?_
  refine wk ?_
  exact⟨.d rfl (.inl rfl),trivial⟩
 rw[decide_eq_false h5,Bool.not_false]at hR
 subst hR
 refine Fn.of Tryz.func221 rfl (by kernel_rfl) Tryz.ntmps221 Tryz.results221 rfl fun w0 S0=>?_
 refine wk ?_
 exact⟨.d rfl (.inl rfl),trivial⟩
mutual
def wdX:ST→Bool
 | .mk b w l=>if b=true then !w.isEmpty&&w.all plainB else wdXs l
def wdXs:List ST→Bool
 | []=>true
 | f::r=>wdX f&&wdXs r
end
theorem wdX_l(w:List UInt8)(l:List ST):wdX (.mk false w l)=wdXs l:=by
 rw[wdX]
 exact if_neg (by decide)
theorem wdX_t(w:List UInt8)(l:List ST):wdX (.mk true w l)=(!w.isEmpty&&w.all plainB):=by
 rw[wdX]
 exact if_pos rfl
theorem nilE:((tx []).toList==(⟨#[]⟩:ByteArray).toList)=true:=by rw[tx_list,show (⟨#[]⟩:ByteArray).toList=[]from tx_list []];rfl
theorem nilN{l:List UInt8}(h:l≠[]):((tx l).toList==(⟨#[]⟩:ByteArray).toList)=false:=by
 rw[tx_list,show (⟨#[]⟩:ByteArray).toList=[]from tx_list []]
 simpa using h
set_option maxRecDepth 100000 in
set_option maxHeartbeats 4000000 in
theorem wordedX:∀ (m:Nat) (s:List ST),szL s<m→s.length≤9223372036854775807→okXs s→Fn Tryz.prog 190 [.d (.l (s.map enX))] [.d (.v (.bool (wdXs s)))]:=by
 intro m
 induction m with
 | zero=>intro s h;omega
 | succ m ih=>
 intro s hm hsl hok
 have hsg:=okXs_mem hok
 obtain⟨R,hR⟩:∃ R,wdXs s=R:=⟨_,rfl⟩
 rw[hR]
 refine Fn.of Tryz.func190 rfl (by kernel_rfl) Tryz.ntmps190 Tryz.results190 rfl fun w0 S0=>?_
 refine wk ?_
 refine AC.loop (X:=Nat) (fun i=>⟨[(6,.d (.l (s.map enX))),(7,.d (.v (.int .i64 (s.length:Int)))),(8,.d (.v (.int .i64 (i:Int))))],[]⟩) (fun i=>i≤s.length∧wdXs (s.drop i)=R) (fun i=>s.length-i) 0 ⟨Nat.zero_le _,hR⟩ ⟨rfl,rfl,rfl,trivial⟩ trivial ?_
 intro i ⟨hi,hgo⟩
 dsimp only at hi hgo ⊢
 refine wk ?_
 refine s1 (fun g1=>?_) (fun g1=>?_)
 ·have hi1:i<s.length:=by omega
  have hx:s[i]?=some s[i]:=List.getElem?_eq_getElem hi1
  rw[List.drop_eq_getElem_cons hi1,wdXs]at hgo
  have hgm:=List.getElem_mem hi1
  generalize s[i]=g at hx hgm hgo
  have ho:=hsg _ hgm
  obtain⟨b,w,l⟩:=g
  have hs:=szL_lt hgm
  rw[okX]at ho
  obtain⟨ho0,ho1,ho2⟩:=ho
  cases b with
  | false=>
    rw[wdX_l]at hgo
    have hf:=ih l (by omega) ho1 ho2
    rw[←subXs_map]at hf
    cases hv:wdXs l with
    | true=>
      rw[hv]at hf hgo
      rw[Bool.true_and]at hgo
      refine wk ?_
      refine c1 hf ?_
      refine wk ?_
      exact⟨i+1,⟨hi1,hgo⟩,by omega,⟨rfl,rfl,rfl,trivial⟩,trivial⟩
    | false=>
      rw[hv]at hf hgo
      rw[Bool.false_and]at hgo
      subst hgo
      refine wk ?_
      refine c1 hf ?_
      refine wk ?_
      exact⟨.d rfl (.inl rfl),trivial⟩
  | true=>
    rw[wdX_t]at hgo
    by_cases hw:w=[]
    ·subst hw
     have hgo:(false&&wdXs (s.drop (i+1)))=R:=hgo
     rw[Bool.false_and]at hgo
     subst hgo
     refine wk ?_
     ((try (first | intro K ms hms hK | intro K hK));(first | apply Chain.go | apply Chain.goD);exact rfl;exact rfl;exact Loc.strEq (r:=true) rfl rfl rfl nilE)
     refine wk ?_
     exact⟨.d rfl (.inl rfl),trivial⟩
    have he:w.isEmpty=false:=by simpa using hw
    rw[he,Bool.not_false,Bool.true_and]at hgo
    refine wk ?_
    ((try (first | intro K ms hms hK | intro K hK));(first | apply Chain.go | apply Chain.goD);exact rfl;exact rfl;exact Loc.strEq (r:=false) rfl rfl rfl (nilN hw))
    refine wk ?_
    ((try (first | intro K ms hms hK | intro K hK));(first | apply Chain.go | apply Chain.goD);exact rfl;exact rfl;exact Loc.strLen rfl rfl (by kernel_rfl))
    rw[show (tx (ST.mk true w l).w).size=w.length from rfl]
    refine wk ?_
    refine AC.loop (X:=Nat) (fun j=>⟨[(4,.p 4 0),(6,.d (.l (s.map enX))),(7,.d (.v (.int .i64 (s.length:Int)))),(8,.d (.v (.int .i64 (i:Int)))),(24,.d (.v (.int .i64 (w.length:Int)))),(25,.d (.v (.int .i64 (j:Int))))],[(4,.box 98 [.d (.v (.bool true)),.d (.v (.string (tx w))),.d (.l (subXs l))])]⟩) (fun j=>j≤w.length∧((w.drop j).all plainB&&wdXs (s.drop (i+1)))=R) (fun j=>w.length-j) 0 ⟨Nat.zero_le _,hgo⟩ ⟨rfl,rfl,rfl,rfl,rfl,rfl,trivial⟩ ⟨rfl,trivial⟩ ?_
    intro j ⟨hj,hgj⟩
    dsimp only at hj hgj ⊢
    refine wk ?_
    refine s1 (fun g2=>?_) (fun g2=>?_)
    ·have hj1:j<w.length:=by omega
     have hget:w[j]?=some w[j]:=List.getElem?_eq_getElem hj1
     rw[List.drop_eq_getElem_cons hj1,List.all_cons]at hgj
     generalize w[j]=c at hget hgj
     have hp:=plainF c
     cases hv:plainB c with
     | true=>
       rw[hv]at hp hgj
       rw[Bool.true_and]at hgj
       refine wk ?_
       ((try (first | intro K ms hms hK | intro K hK));(first | apply Chain.go | apply Chain.goD);exact rfl;exact rfl;exact Loc.strAt (c:=c) j rfl rfl rfl rfl hget (by kernel_rfl))
       refine c1 hp ?_
       refine wk ?_
       exact⟨j+1,⟨hj1,hgj⟩,by omega,⟨rfl,rfl,rfl,rfl,rfl,rfl,trivial⟩,⟨rfl,trivial⟩⟩
     | false=>
       rw[hv]at hp hgj
       rw[Bool.false_and,Bool.false_and]at hgj
       subst hgj
       refine wk ?_
       ((try (first | intro K ms hms hK | intro K hK));(first | apply Chain.go | apply Chain.goD);exact rfl;exact rfl;exact Loc.strAt (c:=c) j rfl rfl rfl rfl hget (by kernel_rfl))
       refine c1 hp ?_
       refine wk ?_
       exact⟨.d rfl (.inl rfl),trivial⟩
    ·rw[List.drop_of_length_le (by omega),List.all_nil,Bool.true_and]at hgj
     refine wk ?_
     exact⟨i+1,⟨hi1,hgj⟩,by omega,⟨rfl,rfl,rfl,trivial⟩,trivial⟩
 ·rw[List.drop_of_length_le (by omega),wdXs]at hgo
  subst hgo
  refine wk ?_
  exact⟨.d rfl (.inl rfl),trivial⟩
def chX(s:List ST):Int:=if (nuXs s 0 0).2=true then if wdXs s=true then 0 else 4 else 2
set_option maxRecDepth 100000 in
theorem sexpCheck(s:List ST)(hl:s.length≤9223372036854775807)(hok:okXs s):Fn Tryz.prog 114 [.d (.l (s.map enX))] [.d (.v (.int .i64 (chX s)))]:=by
 have h1:=sizedX _ s (Nat.lt_succ_self _) hl hok 0 0 (by decide) (by decide) (by decide)
 have h2:=wordedX _ s (Nat.lt_succ_self _) hl hok
 unfold chX
 generalize nuXs s 0 0=T at h1 ⊢
 obtain⟨c,v⟩:=T
 dsimp only at h1 ⊢
 cases v with
 | false=>
   rw[if_neg (by decide)]
   refine Fn.of Tryz.func114 rfl (by kernel_rfl) Tryz.ntmps114 Tryz.results114 rfl fun w0 S0=>?_
   refine wk ?_
   refine c1 h1 ?_
   refine wk ?_
   exact⟨.d rfl (.inl rfl),trivial⟩
 | true=>
   rw[if_pos rfl]
   cases hv:wdXs s with
   | true=>
     rw[hv]at h2
     rw[if_pos rfl]
     refine Fn.of Tryz.func114 rfl (by kernel_rfl) Tryz.ntmps114 Tryz.results114 rfl fun w0 S0=>?_
     refine wk ?_
     refine c1 h1 ?_
     refine wk ?_
     refine c1 h2 ?_
     refine wk ?_
     exact⟨.d rfl (.inl rfl),trivial⟩
   | false=>
     rw[hv]at h2
     rw[if_neg (by decide)]
     refine Fn.of Tryz.func114 rfl (by kernel_rfl) Tryz.ntmps114 Tryz.results114 rfl fun w0 S0=>?_
     refine wk ?_
     refine c1 h1 ?_
     refine wk ?_
     refine c1 h2 ?_
     refine wk ?_
     exact⟨.d rfl (.inl rfl),trivial⟩
set_option maxRecDepth 100000 in
theorem sexpWord(w:List UInt8):Fn Tryz.prog 151 [.d (.v (.string (tx w)))] [.g (enX (.mk true w []))]:=by
 rw[enX_mk]
 refine Fn.of Tryz.func151 rfl (by kernel_rfl) Tryz.ntmps151 Tryz.results151 rfl fun w0 S0=>?_
 refine wk ?_
 exact⟨.cn rfl rfl inferInstance rfl ⟨.inl rfl,.inl rfl,.inr rfl,trivial⟩,trivial⟩
end Go.Proofs.YtbbpecfapohlaaaGreatDoor
