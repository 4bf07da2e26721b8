import Derived.Test.YtbbpecfapohlaaaGreatDoorPrF
namespace Go.Proofs.YtbbpecfapohlaaaGreatDoor
open Go.RowKit
theorem tx_cutX(l:List UInt8)(a b:Nat):(tx l).extract a b=tx ((l.drop a).take (b-a)):=by
 apply ByteArray.ext
 simp[tx]
section
variable {P:Program}{C:Cx}{o:Oper}{σ:AS}
theorem Loc.strCutX{T:TypeId}{x y z:Operand}{l:List UInt8}{n m:Int}{kd kd':IntKind}(i j:Nat)(ho:o.op= .slice T x (some y) (some z) none)(hx:ev σ x= .d (.v (.string (tx l))))(hy:ev σ y= .d (.v (.int kd n)))(hz:ev σ z= .d (.v (.int kd' m)))(hn:n=(i:Int))(hm:m=(j:Int))(hij:i≤j)(hj:j≤l.length)(hT:P.underlying T=some .string):Loc P C o σ (.d (.v (.string (tx ((l.drop i).take (j-i)))))):=
 Loc.quiet fun σ' hl β c w hi'=>by
  subst hn hm
  have h1:=hl.ra hi' (x:=x) (by rw[ho];simp[Op.operands])
  have h2:=hl.ra hi' (x:=y) (by rw[ho];simp[Op.operands])
  have h3:=hl.ra hi' (x:=z) (by rw[ho];simp[Op.operands])
  rw[hx]at h1
  rw[hy]at h2
  rw[hz]at h3
  refine⟨_,?_,.mk rfl⟩
  unfold execOp;rw[ho]
  have hr:(Instr.slice T (.string (tx l)) (some (.int kd (i:Int))) (some (.int kd' (j:Int))) none).run P w= .ok (.string ((tx l).extract i j)) w:=by
   have hs:(j:Int)≤(tx l).size:=by rw[tx_size];omega
   simp[Instr.slice,run_underlying hT,Instr.sliceBounds,run_sliceBound,hs,hij]
  rw[tx_cutX]at hr
  simp[RA.val h1,RA.val h2,RA.val h3,run_sliceAt_string _ _ _ _ _ _ hT,hr]
end
attribute [local irreducible] AC Do St
inductive PX where
 | ok (out:List ST) (rest:List UInt8) (n:Int)
 | bad (e:Int) (left:Nat)
def PX.cons(t:ST):PX→PX
 | .ok out r n=> .ok (t::out) r n
 | .bad e p=> .bad e p
def PX.next(p:PX)(f:List ST→List UInt8→Int→PX):PX:=match p with
 | .ok out r n=>f out r n
 | .bad e p=> .bad e p
def parseX:Nat→Nat→List UInt8→Int→PX
 | 0,_,_,_=> .bad 3 0
 | f+1,d,s,n=>
   match skX false s with
   | []=>if 0<d then .bad 3 0 else .ok [] [] n
   | c::r=>
     if c.toNat=41 then(if d=0 then .bad 3 (r.length+1)else .ok [] r n)
     else if 100000<n+1∨(c.toNat=40∧d=200)then .bad 2 (r.length+1)
     else if c.toNat=40 then
      (parseX f (d+1) r (n+1)).next fun sub r' n'=>(parseX f d r' n').cons (.mk false [] sub)
     else if plainB c=true then
      (parseX f d ((c::r).dropWhile plainB) (n+1)).cons (.mk true ((c::r).takeWhile plainB) [])
     else .bad 3 (r.length+1)
def oneX(f d:Nat)(s:List UInt8)(n:Int):PX:=match s with
 | []=> .bad 3 0
 | c::r=>if c.toNat=40 then(parseX f (d+1) r n).next fun sub r' n'=> .ok [.mk false [] sub] r' n'
   else if plainB c=true then .ok [.mk true ((c::r).takeWhile plainB) []] ((c::r).dropWhile plainB) n
   else .bad 3 (r.length+1)
def liQ(b:Nat)(src:List UInt8)(x:PX)(post:List (Value×Rel))(res:List DV):Prop:=match x with
 | .ok out rest n=>post=rdR b src (src.length-rest.length) n 0 0∧res=[.d (.l (out.map enX))]
 | .bad e left=>∃ (i:Nat) (n:Int) (out:List ST),i≤src.length∧post=rdR b src i n e ((src.length-left:Nat):Int)∧res=[.d (.l (out.map enX))]
def onQ(b:Nat)(src:List UInt8)(x:PX)(post:List (Value×Rel))(res:List DV):Prop:=match x with
 | .ok out rest n=>∃ t,out=[t]∧post=rdR b src (src.length-rest.length) n 0 0∧res=[.g (enX t)]
 | .bad e left=>∃ (i:Nat) (n:Int) (t:ST),i≤src.length∧post=rdR b src i n e ((src.length-left:Nat):Int)∧res=[.g (enX t)]
theorem rd_retQ{P:Program}{σ:AS}{rs:List ResultVar}{nt b:Nat}{src:List UInt8}{i:Nat}{n e p:Int}{r:List DV}{Post:List (Value×Rel)→List DV→Prop}(hp:Post (rdR b src i n e p) r)(h0:get? σ.objs (nt+100+0)=some (rdO b src i n e p))(hr:ressX P σ rs r):∃ post res,Post post res∧post.length=1∧ressX P σ rs res∧∀ j (h:j<post.length),get? σ.objs (nt+100+j)=some (.own post[j].1 post[j].2):=
 ⟨_,_,hp,rfl,hr,fun j h=>by
  match j,h with
  | 0,_=>exact h0
  | j+1,h=>exact absurd h (by simp[rdR])⟩
theorem rd_get{b:Nat}{src:List UInt8}{i id:Nat}{n e p:Int}{O:List (Nat×AO)}(h0:get? O id=some (rdO b src i n e p)):∀ j (_:j<(rdR b src i n e p).length) (_:j<[id].length),get? O [id][j]=some (.own (rdR b src i n e p)[j].1 (rdR b src i n e p)[j].2):=fun j h _=>by
 match j,h with
 | 0,_=>exact h0
 | j+1,h=>exact absurd h (by simp[rdR])
theorem dw_len(l:List UInt8):(l.dropWhile plainB).length≤l.length:=(List.dropWhile_sublist plainB).length_le
theorem dw_pl{c:UInt8}{r:List UInt8}(h:plainB c=true):(c::r).dropWhile plainB=r.dropWhile plainB:=by rw[List.dropWhile_cons,if_pos h]
theorem dw_no{c:UInt8}{r:List UInt8}(h:plainB c=false):(c::r).dropWhile plainB=c::r:=by rw[List.dropWhile_cons,if_neg (by rw[h];decide)]
set_option maxRecDepth 100000 in
set_option maxHeartbeats 8000000 in
theorem rdOne(b:Nat)(src:List UInt8)(i f d:Nat)(n:Int)(c:UInt8)(r:List UInt8)(hd:src.drop i=c::r)(hs:src.length≤1000000)(hdp:d≤200)
  (hL:c.toNat=40→FnO Tryz.prog 81 (fun _=>True) (rdR b src (i+1) n 0 0) [.d (.v (ptv b 0)),.d (.v (.int .i64 ((d:Int)+1)))] (liQ b src (parseX f (d+1) r n))):
  FnO Tryz.prog 149 (fun _=>True) (rdR b src i n 0 0) [.d (.v (ptv b 0)),.d (.v (.int .i64 (d:Int)))] (onQ b src (oneX f d (src.drop i) n)):=by
 have hil:i<src.length:=by
  rcases Nat.lt_or_ge i src.length with h | h
  ·exact h
  ·rw[List.drop_of_length_le h]at hd
   cases hd
 have hc:src[i]?=some c:=by
  have:=List.getElem?_drop (xs:=src) (i:=i) (j:=0)
  rw[hd]at this
  simpa using this.symm
 have hrl:r.length+1=src.length-i:=by
  have:=congrArg List.length hd
  simp at this
  omega
 have hcb:=UInt8.toNat_lt c
 rw[hd]
 unfold oneX
 dsimp only
 by_cases h40:c.toNat=40
 ·rw[if_pos h40]
  have hF:=hL h40
  generalize parseX f (d+1) r n=X at hF ⊢
  refine FnO.of Tryz.func149 rfl (by kernel_rfl) Tryz.ntmps149 Tryz.results149 rfl rfl fun w0 S0 vs hS hv hKW=>⟨_,fun t v h=> .inl h,?_⟩
  refine wr ?_
  ((try (first | intro K ms hms hK | intro K hK));(first | apply Chain.go | apply Chain.goD);exact rfl;exact rfl;exact Loc.strAt (c:=c) i rfl rfl rfl rfl hc (by kernel_rfl))
  refine wr ?_
  (first | intro K ms hms hK | intro K hK | skip)
  refine Chain.callO [181] hF rfl rfl rfl (by decide) rfl (rd_get rfl) ⟨.inl rfl,.inl rfl,trivial⟩ (fun _ _ _ _ _ _=>trivial) (fun post res hpq _=>?_)
  cases X with
  | ok sub rest n2=>
    obtain⟨rfl,rfl⟩:=hpq
    refine wr ?_
    exact rd_retQ (r:=[.g [.v (.bool false),.v (.string (tx [])),.l (sub.map enX)]]) ⟨.mk false [] sub,rfl,rfl,by rw[enX_mk]⟩ rfl ⟨.cn rfl rfl inferInstance rfl ⟨.inl rfl,.inl rfl,.inl rfl,trivial⟩,trivial⟩
  | bad e left=>
    obtain⟨i2,n2,out,q1,rfl,rfl⟩:=hpq
    refine wr ?_
    exact rd_retQ (r:=[.g [.v (.bool false),.v (.string (tx [])),.l (out.map enX)]]) ⟨i2,n2,.mk false [] out,q1,rfl,by rw[enX_mk]⟩ rfl ⟨.cn rfl rfl inferInstance rfl ⟨.inl rfl,.inl rfl,.inl rfl,trivial⟩,trivial⟩
 rw[if_neg h40]
 refine FnO.of Tryz.func149 rfl (by kernel_rfl) Tryz.ntmps149 Tryz.results149 rfl rfl fun w0 S0 vs hS hv hKW=>⟨_,fun t v h=> .inl h,?_⟩
 refine wr ?_
 ((try (first | intro K ms hms hK | intro K hK));(first | apply Chain.go | apply Chain.goD);exact rfl;exact rfl;exact Loc.strAt (c:=c) i rfl rfl rfl rfl hc (by kernel_rfl))
 refine wr ?_
 refine AC.loop (X:=Nat) (fun k=>⟨[(0,.d (.v (ptv b 0))),(4,.p 4 0),(5,.d (.v (.int .i64 (i:Int))))],[(181,rdO b src k n 0 0),(4,.box 98 [.d (.v (.bool false)),.d (.v (.string ⟨#[]⟩)),.d .n])]⟩) (fun k=>i≤k∧k≤src.length∧(src.drop i).dropWhile plainB=(src.drop k).dropWhile plainB∧(src.drop i).takeWhile plainB=(src.drop i).take (k-i)++(src.drop k).takeWhile plainB) (fun k=>src.length-k) i ⟨Nat.le_refl _,by omega,rfl,by rw[Nat.sub_self,List.take_zero,List.nil_append]⟩ ⟨rfl,rfl,rfl,trivial⟩ ⟨rfl,rfl,trivial⟩ ?_
 intro k ⟨hk0,hk1,hdw,htw⟩
 dsimp only at hk0 hk1 hdw htw ⊢
 refine wr ?_
 ((try (first | intro K ms hms hK | intro K hK));(first | apply Chain.go | apply Chain.goD);exact rfl;exact rfl;exact Loc.strLen rfl rfl (by kernel_rfl))
 rw[tx_size]
 have hfin:∀ (hst:(src.drop k).dropWhile plainB=src.drop k) (hst2:(src.drop k).takeWhile plainB=[]),((k=i∧plainB c=false)∨(i<k∧plainB c=true))∧(c::r).dropWhile plainB=src.drop k∧(c::r).takeWhile plainB=(src.drop i).take (k-i):=fun hst hst2=>by
  rw[hst2,List.append_nil]at htw
  rw[hst]at hdw
  rw[hd]at hdw htw
  refine⟨?_,hdw,by rw[hd];exact htw⟩
  cases hp:plainB c with
  | false=>
    rw[dw_no hp]at hdw
    have:=congrArg List.length hdw
    simp at this
    exact .inl ⟨by omega,rfl⟩
  | true=>
    rw[dw_pl hp]at hdw
    have h1:=congrArg List.length hdw
    have h2:=dw_len r
    simp at h1
    exact .inr ⟨by omega,rfl⟩
 refine s1 (fun h2=>?_) (fun h2=>?_)
 ·obtain⟨c2,hc2,hd2⟩:=drop_at (src:=src) (j:=k) (by omega)
  have hp2:=plainF c2
  cases hv2:plainB c2 with
  | true=>
    rw[hv2]at hp2
    have hdw':(src.drop i).dropWhile plainB=(src.drop (k+1)).dropWhile plainB:=by rw[hdw,hd2,dw_pl hv2]
    have htw':(src.drop i).takeWhile plainB=(src.drop i).take (k+1-i)++(src.drop (k+1)).takeWhile plainB:=by
     have hx:(src.drop i)[k-i]?=some c2:=by rw[List.getElem?_drop,show i+(k-i)=k from by omega];exact hc2
     obtain⟨hx1,hx2⟩:=List.getElem?_eq_some_iff.1 hx
     rw[htw,hd2,List.takeWhile_cons,if_pos hv2,show k+1-i=k-i+1 from by omega,List.take_succ_eq_append_getElem hx1,hx2]
     simp
    refine wr ?_
    ((try (first | intro K ms hms hK | intro K hK));(first | apply Chain.go | apply Chain.goD);exact rfl;exact rfl;exact Loc.strAt (c:=c2) k rfl rfl rfl rfl hc2 (by kernel_rfl))
    refine c1 hp2 ?_
    refine wr ?_
    exact⟨k+1,⟨by omega,by omega,hdw',htw'⟩,by omega,⟨rfl,rfl,rfl,trivial⟩,⟨rfl,rfl,trivial⟩⟩
  | false=>
    rw[hv2]at hp2
    obtain⟨hcs,e1,e2⟩:=hfin (by rw[hd2,dw_no hv2]) (by rw[hd2,List.takeWhile_cons,if_neg (by rw[hv2];decide)])
    refine wr ?_
    ((try (first | intro K ms hms hK | intro K hK));(first | apply Chain.go | apply Chain.goD);exact rfl;exact rfl;exact Loc.strAt (c:=c2) k rfl rfl rfl rfl hc2 (by kernel_rfl))
    refine c1 hp2 ?_
    rcases hcs with ⟨hki,hp⟩ | ⟨hki,hp⟩
    ·subst hki
     refine wr ?_
     (first | intro K ms hms hK | intro K hK | skip)
     refine Chain.callO [181] (rdFail b src k n 0 0 k 3) rfl rfl rfl (by decide) rfl (rd_get rfl) ⟨.inl rfl,.inl rfl,.inl rfl,trivial⟩ (fun _ _ _ _ _ _=>trivial) (fun post res hpq _=>?_)
     obtain⟨rfl,rfl⟩:=hpq
     refine wr ?_
     ((try (first | intro K ms hms hK | intro K hK));(first | apply Chain.go | apply Chain.goD);exact rfl;exact rfl;exact Loc.strCutX k k rfl rfl rfl rfl rfl rfl (Nat.le_refl _) hk1 (by kernel_rfl))
     refine wr ?_
     refine rd_retQ (r:=[.g [.v (.bool true),.v (.string (tx ((src.drop k).take (k-k)))),.l []]]) ?_ rfl ⟨.cn rfl rfl inferInstance rfl ⟨.inl rfl,.inl rfl,.inr rfl,trivial⟩,trivial⟩
     rw[if_neg (by rw[hp];decide)]
     exact⟨k,n,.mk true ((src.drop k).take (k-k)) [],hk1,by rw[show src.length-(r.length+1)=k from by omega];rfl,by rw[enX_mk];rfl⟩
    ·refine wr ?_
     ((try (first | intro K ms hms hK | intro K hK));(first | apply Chain.go | apply Chain.goD);exact rfl;exact rfl;exact Loc.strCutX i k rfl rfl rfl rfl rfl rfl hk0 hk1 (by kernel_rfl))
     refine wr ?_
     refine rd_retQ (r:=[.g [.v (.bool true),.v (.string (tx ((src.drop i).take (k-i)))),.l []]]) ?_ rfl ⟨.cn rfl rfl inferInstance rfl ⟨.inl rfl,.inl rfl,.inr rfl,trivial⟩,trivial⟩
     rw[if_pos hp]
     exact⟨.mk true ((src.drop i).take (k-i)) [],by rw[e2],by rw[e1,List.length_drop,show src.length-(src.length-k)=k from by omega],by rw[enX_mk];rfl⟩
 ·have hnil:src.drop k=[]:=List.drop_of_length_le (by omega)
  obtain⟨hcs,e1,e2⟩:=hfin (by rw[hnil];rfl) (by rw[hnil];rfl)
  rcases hcs with ⟨hki,hp⟩ | ⟨hki,hp⟩
  ·exact absurd hki (by omega)
  ·refine wr ?_
   ((try (first | intro K ms hms hK | intro K hK));(first | apply Chain.go | apply Chain.goD);exact rfl;exact rfl;exact Loc.strCutX i k rfl rfl rfl rfl rfl rfl hk0 hk1 (by kernel_rfl))
   refine wr ?_
   refine rd_retQ (r:=[.g [.v (.bool true),.v (.string (tx ((src.drop i).take (k-i)))),.l []]]) ?_ rfl ⟨.cn rfl rfl inferInstance rfl ⟨.inl rfl,.inl rfl,.inr rfl,trivial⟩,trivial⟩
   rw[if_pos hp]
   exact⟨.mk true ((src.drop i).take (k-i)) [],by rw[e2],by rw[e1,List.length_drop,show src.length-(src.length-k)=k from by omega],by rw[enX_mk];rfl⟩
theorem skX_idem:∀ s:List UInt8,skX false (skX false s)=skX false s:=fun s=>by
 have h:∀ (b:Bool) (s:List UInt8),skX false (skX b s)=skX b s:=fun b s=>by
  induction s generalizing b with
  | nil=>cases b<;>rfl
  | cons c r ih=>
    cases b with
    | false=>
      rw[skX]
      split
      ·exact ih false
      ·rename_i h1
       split
       ·exact ih true
       ·rename_i h2
        rw[skX,if_neg h1,if_neg h2]
    | true=>
      rw[skX]
      split
      ·exact ih false
      ·exact ih true
 exact h false s
theorem skX_suf:∀ (b:Bool) (s:List UInt8),skX b s <:+ s
 | b,[]=>by cases b<;>exact List.suffix_refl _
 | false,c::r=>by
   rw[skX]
   split
   ·exact(skX_suf false r).trans (List.suffix_cons c r)
   ·split
    ·exact(skX_suf true r).trans (List.suffix_cons c r)
    ·exact List.suffix_refl _
 | true,c::r=>by
   rw[skX]
   split
   ·exact(skX_suf false r).trans (List.suffix_cons c r)
   ·exact(skX_suf true r).trans (List.suffix_cons c r)
theorem suf_drop{s src:List UInt8}(h:s <:+ src):src.drop (src.length-s.length)=s:=by
 obtain⟨t,rfl⟩:=h
 rw[List.length_append,show t.length+s.length-s.length=t.length from by omega,List.drop_left]
theorem parseX_sk(f d:Nat)(s:List UInt8)(n:Int):parseX f d (skX false s) n=parseX f d s n:=by
 cases f with
 | zero=>rfl
 | succ f=>rw[parseX,parseX,skX_idem]
theorem parseX_suf:∀ (f d:Nat) (s:List UInt8) (n:Int),match parseX f d s n with
  | .ok _ rest _=>rest <:+ s
  | .bad e left=>e≠0∧left≤s.length
 | 0,d,s,n=>⟨by decide,Nat.zero_le _⟩
 | f+1,d,s,n=>by
   have hsk:=skX_suf false s
   have hsl:=skX_len false s
   rw[parseX]
   cases hS:skX false s with
   | nil=>
     dsimp only
     split<;>rename_i h
     ·split at h
      ·cases h
      ·cases h
       exact List.nil_suffix
     ·split at h
      ·cases h
       exact⟨by decide,Nat.zero_le _⟩
      ·cases h
   | cons c r=>
     rw[hS]at hsk hsl
     have hrs:r <:+ s:=(List.suffix_cons c r).trans hsk
     simp only[List.length_cons]at hsl
     dsimp only
     by_cases k1:c.toNat=41
     ·rw[if_pos k1]
      by_cases k2:d=0
      ·rw[if_pos k2]
       exact⟨by decide,hsl⟩
      ·rw[if_neg k2]
       exact hrs
     rw[if_neg k1]
     by_cases k3:100000<n+1∨(c.toNat=40∧d=200)
     ·rw[if_pos k3]
      exact⟨by decide,hsl⟩
     rw[if_neg k3]
     by_cases k4:c.toNat=40
     ·rw[if_pos k4]
      have h1:=parseX_suf f (d+1) r (n+1)
      cases hX:parseX f (d+1) r (n+1)with
      | bad e left=>
        rw[hX]at h1
        exact⟨h1.1,by have:=h1.2;omega⟩
      | ok sub r2 n2=>
        rw[hX]at h1
        have h1:r2 <:+ r:=h1
        have h2:=parseX_suf f d r2 n2
        show match PX.cons (.mk false [] sub) (parseX f d r2 n2)with
         | .ok _ rest _=>rest <:+ s
         | .bad e left=>e≠0∧left≤s.length
        cases hY:parseX f d r2 n2 with
        | bad e left=>
          rw[hY]at h2
          exact⟨h2.1,by have:=h2.2;have:=h1.length_le;omega⟩
        | ok out r3 n3=>
          rw[hY]at h2
          exact(show r3 <:+ r2 from h2).trans (h1.trans hrs)
     rw[if_neg k4]
     by_cases k5:plainB c=true
     ·rw[if_pos k5]
      have h2:=parseX_suf f d ((c::r).dropWhile plainB) (n+1)
      have h3:(c::r).dropWhile plainB <:+ s:=(List.dropWhile_suffix plainB).trans hsk
      cases hY:parseX f d ((c::r).dropWhile plainB) (n+1)with
      | bad e left=>
        rw[hY]at h2
        exact⟨h2.1,by have:=h2.2;have:=h3.length_le;omega⟩
      | ok out r3 n3=>
        rw[hY]at h2
        exact(show r3 <:+ _ from h2).trans h3
     ·rw[if_neg k5]
      exact⟨by decide,hsl⟩
theorem parseX_n:∀ (f d:Nat) (s:List UInt8) (n:Int),0≤n→n≤100000→match parseX f d s n with
  | .ok _ _ m=>0≤m∧m≤100000
  | .bad _ _=>True
 | 0,d,s,n,_,_=>trivial
 | f+1,d,s,n,h0,h1=>by
   rw[parseX]
   cases skX false s with
   | nil=>
     dsimp only
     by_cases k0:0<d
     ·rw[if_pos k0]
      trivial
     ·rw[if_neg k0]
      exact⟨h0,h1⟩
   | cons c r=>
     dsimp only
     by_cases k1:c.toNat=41
     ·rw[if_pos k1]
      by_cases k2:d=0
      ·rw[if_pos k2]
       trivial
      ·rw[if_neg k2]
       exact⟨h0,h1⟩
     rw[if_neg k1]
     by_cases k3:100000<n+1∨(c.toNat=40∧d=200)
     ·rw[if_pos k3]
      trivial
     rw[if_neg k3]
     have hn:n+1≤100000:=by
      have:¬ 100000<n+1:=fun h=>k3 (.inl h)
      omega
     by_cases k4:c.toNat=40
     ·rw[if_pos k4]
      have h2:=parseX_n f (d+1) r (n+1) (by omega) hn
      cases hX:parseX f (d+1) r (n+1)with
      | bad e left=>trivial
      | ok sub r2 n2=>
        rw[hX]at h2
        have h2:0≤n2∧n2≤100000:=h2
        have h3:=parseX_n f d r2 n2 h2.1 h2.2
        show match PX.cons (.mk false [] sub) (parseX f d r2 n2)with
         | .ok _ _ m=>0≤m∧m≤100000
         | .bad _ _=>True
        cases hY:parseX f d r2 n2 with
        | bad e left=>trivial
        | ok out r3 n3=>
          rw[hY]at h3
          exact h3
     rw[if_neg k4]
     by_cases k5:plainB c=true
     ·rw[if_pos k5]
      have h3:=parseX_n f d ((c::r).dropWhile plainB) (n+1) (by omega) hn
      cases hY:parseX f d ((c::r).dropWhile plainB) (n+1)with
      | bad e left=>trivial
      | ok out r3 n3=>
        rw[hY]at h3
        exact h3
     ·rw[if_neg k5]
      trivial
def PX.app(out:List ST):PX→PX
 | .ok o r n=> .ok (out++o) r n
 | .bad e p=> .bad e p
theorem app_cons(out:List ST)(t:ST)(x:PX):PX.app out (x.cons t)=PX.app (out++[t]) x:=by
 cases x with
 | ok o r n=>simp[PX.app,PX.cons]
 | bad e p=>rfl
theorem app_nil(x:PX):PX.app [] x=x:=by cases x<;>rfl
theorem parseX_one{f d:Nat}{c:UInt8}{r:List UInt8}{n:Int}(h0:skX false (c::r)=c::r)(k1:¬ c.toNat=41)(k3:¬ (100000<n+1∨(c.toNat=40∧d=200))):parseX (f+1) d (c::r) n=match oneX f d (c::r) (n+1)with
  | .ok out rest m=>match out with
    | [t]=>(parseX f d rest m).cons t
    | _=> .bad 3 0
  | .bad e left=> .bad e left:=by
 rw[parseX,h0]
 dsimp only
 rw[if_neg k1,if_neg k3]
 unfold oneX
 dsimp only
 by_cases k4:c.toNat=40
 ·rw[if_pos k4,if_pos k4]
  cases parseX f (d+1) r (n+1)<;>rfl
 ·rw[if_neg k4,if_neg k4]
  by_cases k5:plainB c=true
  ·rw[if_pos k5,if_pos k5]
  ·rw[if_neg k5,if_neg k5]
theorem oneX_ok{f d:Nat}{c:UInt8}{r:List UInt8}{n:Int}(h0:0≤n)(h1:n≤100000):match oneX f d (c::r) n with
  | .ok out rest m=>(∃t,out=[t])∧rest <:+ r∧0≤m∧m≤100000
  | .bad e left=>e≠0∧left≤r.length+1:=by
 unfold oneX
 dsimp only
 by_cases k4:c.toNat=40
 ·rw[if_pos k4]
  have g1:=parseX_suf f (d+1) r n
  have g2:=parseX_n f (d+1) r n h0 h1
  cases hX:parseX f (d+1) r n with
  | bad e left=>
    rw[hX]at g1
    exact⟨g1.1,by have:=g1.2;omega⟩
  | ok sub r2 n2=>
    rw[hX]at g1 g2
    exact⟨⟨_,rfl⟩,g1,g2⟩
 ·rw[if_neg k4]
  by_cases k5:plainB c=true
  ·rw[if_pos k5]
   exact⟨⟨_,rfl⟩,by rw[dw_pl k5];exact List.dropWhile_suffix plainB,h0,h1⟩
  ·rw[if_neg k5]
   exact⟨by decide,Nat.le_refl _⟩
end Go.Proofs.YtbbpecfapohlaaaGreatDoor
