import Derived.Lib.ItoaLen
import Derived.Test.YtbbpecfapohlaaaGreatDoorP1
import Derived.Test.YtbbpecfapohlaaaGreatDoorDigA
namespace Go.Proofs.YtbbpecfapohlaaaGreatDoor
open Go.RowKit
theorem valF_dval:∀ (l:List UInt8) (a:Nat),valF a l=a*10^l.length+dval 10 ((l.map fun c=>c.toNat-48).reverse)
 | [],a=>by simp[valF]
 | c::l,a=>by
   have h:=valF_dval l (a*10+(c.toNat-48))
   have e:valF a (c::l)=valF (a*10+(c.toNat-48)) l:=rfl
   rw[e,h,List.map_cons,List.reverse_cons,dval_concat,List.length_reverse,List.length_map,List.length_cons,Nat.pow_succ,Nat.add_mul]
   have e1:a*10*10^l.length=a*(10^l.length*10):=by rw[Nat.mul_assoc,Nat.mul_comm 10]
   have e2:(c.toNat-48)*10^l.length=10^l.length*(c.toNat-48):=Nat.mul_comm ..
   omega
theorem dec_uniq{l m:List UInt8}(hl:∀ c∈l,DigC c)(hm:∀ c∈m,DigC c)(h0:l.head?≠some 48)(h1:m.head?≠some 48)(h:valF 0 l=valF 0 m):l=m:=by
 have key:∀ {l:List UInt8},(∀c∈l,DigC c)→l.head?≠some 48→Dg 10 ((l.map fun c=>c.toNat-48).reverse)∧Nrm ((l.map fun c=>c.toNat-48).reverse):=fun {l} hl h0=>by
  refine⟨fun x hx=>?_,?_⟩
  ·rw[List.mem_reverse]at hx
   obtain⟨c,hc,rfl⟩:=List.mem_map.1 hx
   have:=hl c hc
   unfold DigC at this
   show c.toNat-48<10
   omega
  ·unfold Nrm
   rw[List.getLast?_reverse]
   cases l with
   | nil=>simp
   | cons c r=>
     simp only[List.map_cons,List.head?_cons]
     intro e
     injection e with e
     have:=hl c (by simp)
     unfold DigC at this
     refine h0 ?_
     rw[List.head?_cons]
     congr 1
     refine UInt8.toNat_inj.1 ?_
     show c.toNat=48
     omega
 rw[valF_dval,valF_dval]at h
 simp only[Nat.zero_mul,Nat.zero_add]at h
 obtain⟨a1,a2⟩:=key hl h0
 obtain⟨b1,b2⟩:=key hm h1
 have h2:=List.reverse_inj.1 (nrm_inj (by omega) a1 b1 a2 b2 h)
 have back:∀ {l:List UInt8},(∀c∈l,DigC c)→(l.map fun c=>c.toNat-48).map (fun d=>UInt8.ofNat (d+48))=l:=fun {l} hl=>by
  rw[List.map_map]
  conv=>rhs;rw[←List.map_id l]
  refine List.map_congr_left fun c hc=>?_
  have:=hl c hc
  unfold DigC at this
  refine UInt8.toNat_inj.1 ?_
  simp only[Function.comp,id]
  rw[UInt8.toNat_ofNat']
  omega
 rw[←back hl,h2,back hm]
theorem dig_nat{d:Nat}(h:d<10):(UInt8.ofNat (48+d)).toNat=48+d:=by
 rw[UInt8.toNat_ofNat']
 omega
theorem decD_dig(u:Nat):∀ c∈Lib.decDigits u,DigC c:=by
 induction u using Nat.strongRecOn with
 | _ u ih=>
   intro c hc
   rw[Lib.decDigits]at hc
   split at hc
   ·rename_i h
    rw[List.mem_singleton.1 hc]
    unfold DigC
    rw[dig_nat h]
    omega
   ·rename_i h
    rcases List.mem_append.1 hc with hc | hc
    ·exact ih (u / 10) (by omega) c hc
    ·rw[List.mem_singleton.1 hc]
     unfold DigC
     rw[dig_nat (Nat.mod_lt _ (by omega))]
     have:=Nat.mod_lt u (by omega:10>0)
     omega
theorem decD_val(u:Nat):valF 0 (Lib.decDigits u)=u:=by
 induction u using Nat.strongRecOn with
 | _ u ih=>
   rw[Lib.decDigits]
   split
   ·rename_i h
    have:(UInt8.ofNat (48+u)).toNat=48+u:=dig_nat h
    show 0*10+((UInt8.ofNat (48+u)).toNat-48)=u
    omega
   ·rename_i h
    have h2:=dig_nat (Nat.mod_lt u (by omega:10>0))
    rw[valF_app,ih (u / 10) (by omega)]
    show u / 10*10+((UInt8.ofNat (48+u % 10)).toNat-48)=u
    omega
theorem decD_ne(u:Nat):Lib.decDigits u≠[]:=by
 rw[Lib.decDigits]
 split<;>simp
theorem decD_head{u:Nat}:u≠0→(Lib.decDigits u).head?≠some 48:=by
 induction u using Nat.strongRecOn with
 | _ u ih=>
   intro h0
   rw[Lib.decDigits]
   split
   ·rename_i h
    intro e
    injection e with e
    have:=congrArg UInt8.toNat e
    rw[dig_nat h]at this
    have e2:(48:UInt8).toNat=48:=rfl
    omega
   ·rename_i h
    have h1:=ih (u / 10) (by omega) (by omega)
    cases hd:Lib.decDigits (u / 10)with
    | nil=>exact absurd hd (decD_ne _)
    | cons c r=>rw[hd]at h1;exact h1
theorem textL_dec(n:Nat):textL n=Lib.decDigits n:=by
 by_cases h:n=0
 ·subst h
  rw[Lib.decDigits]
  rfl
 ·refine dec_uniq (textL_dig n) (decD_dig n) ?_ (decD_head h) (by rw[textL_val,decD_val])
  unfold textL
  rw[if_neg h]
  unfold trimZ
  have:=List.head?_dropWhile_not (fun c:UInt8=>c==48) (rawT n)
  intro e
  rw[e]at this
  simp at this
theorem decD_inj{n m:Nat}(h:Lib.decDigits n=Lib.decDigits m):n=m:=by rw[←decD_val n,h,decD_val]
theorem itoa_no{c:UInt8}(n:Int)(h:¬ DigC c)(h45:c≠45):c∉Lib.itoa n:=fun e=>by
 unfold Lib.itoa at e
 split at e
 ·rcases List.mem_cons.1 e with e | e
  ·exact h45 e
  ·exact h (decD_dig _ c e)
 ·exact h (decD_dig _ c e)
theorem itoa_inj{n m:Int}(h:Lib.itoa n=Lib.itoa m):n=m:=by
 have hno:∀ (u v:Nat),45::Lib.decDigits u≠Lib.decDigits v:=fun u v e=>no45 (decD_dig v 45 (by rw[←e];simp))
 unfold Lib.itoa at h
 split at h<;>split at h
 ·injection h with _ h
  have:=decD_inj h
  omega
 ·exact absurd h (hno _ _)
 ·exact absurd h.symm (hno _ _)
 ·have:=decD_inj h
  omega
theorem no58:¬DigC 58:=by unfold DigC;decide
def keyT(l:List (Int×Rat)):List UInt8:=l.flatMap fun t=>Lib.itoa t.1++58::(printL t.2++[32])
theorem keyT_cons(t:Int×Rat)(l:List (Int×Rat)):keyT (t::l)=(Lib.itoa t.1++58::printL t.2)++32::keyT l:=by
 simp[keyT]
theorem keyT_inj:∀ {l m:List (Int×Rat)},keyT l=keyT m→l=m
 | [],[],_=>rfl
 | [],t::m,h=>by rw[keyT_cons]at h;simp[keyT]at h
 | t::l,[],h=>by rw[keyT_cons]at h;simp[keyT]at h
 | t::l,u::m,h=>by
   have no:∀ t:Int×Rat,(32:UInt8)∉Lib.itoa t.1++58::printL t.2:=fun t e=>by
    rcases List.mem_append.1 e with e | e
    ·exact itoa_no _ no32 (by decide) e
    ·rcases List.mem_cons.1 e with e | e
     ·exact absurd e (by decide)
     ·exact printL_no _ no32 (by decide) (by decide) e
   rw[keyT_cons,keyT_cons]at h
   obtain⟨h1,h2⟩:=split_uniq (no t) (no u) h
   obtain⟨h3,h4⟩:=split_uniq (itoa_no t.1 no58 (by decide)) (itoa_no u.1 no58 (by decide)) h1
   have h5:t=u:=Prod.ext (itoa_inj h3) (printL_inj h4)
   rw[h5,keyT_inj h2]
theorem keyT_snoc(l:List (Int×Rat))(t:Int×Rat):keyT (l++[t])=keyT l++(Lib.itoa t.1++58::(printL t.2++[32])):=by
 simp[keyT]
end Go.Proofs.YtbbpecfapohlaaaGreatDoor
namespace Go.Proofs.YtbbpecfapohlaaaGreatDoor
open Go.RowKit
attribute [local irreducible] AC Do St
theorem cutX(x:Nat)(hb:(limbs x).length≤1000000000):Fn Tryz.prog 244 [.d (enL (limbs x))] [.d (enL (limbs x))]:=by
 have:=cutU (limbs x) (limbsDg x) hb
 rwa[limbs_val]at this
section
variable {p q:Rat}{k:Nat}
end
def w4(w:Nat):List UInt8:=(four w).map UInt8.ofNat
theorem w4_en(w:Nat):(w4 w).map enBy=[[.v (.int .u8 ((w % 256:Nat):Int))],[.v (.int .u8 ((w / 256 % 256:Nat):Int))],[.v (.int .u8 ((w / 65536 % 256:Nat):Int))],[.v (.int .u8 ((w / 16777216 % 256:Nat):Int))]]:=by
 have h:∀ x,((UInt8.ofNat (x % 256)).toNat:Int)=((x % 256:Nat):Int):=fun x=>by rw[byte_nat (Nat.mod_lt _ (by omega))]
 simp only[w4,four,List.map_cons,List.map_nil,enBy,h]
theorem wrap8(n:Nat):IntKind.u8.wrap (n:Int)=((n % 256:Nat):Int):=by
 simp[IntKind.wrap,IntKind.bits,IntKind.signed]
theorem shr_nat(w s:Nat):((w:Nat):Int).fdiv (2^s)=((w / 2^s:Nat):Int):=by
 rw[Int.fdiv_eq_ediv_of_nonneg _ (Int.le_of_lt (Int.pow_pos (by omega)))]
 simp
def nB(l:List UInt8):List Nat:=l.map UInt8.toNat
theorem cut_bytes{m:List UInt8}{n:Nat}(hm:nB m=digs 256 n):m=byL n:=by
 unfold byL
 rw[←hm,nB,List.map_map]
 conv=>lhs;rw[←List.map_id m]
 refine List.map_congr_left fun c _=>?_
 refine UInt8.toNat_inj.1 ?_
 simp[Function.comp]
theorem nB_raw(L:List Nat):nB (L.flatMap w4)=L.flatMap four:=by
 induction L with
 | nil=>rfl
 | cons w r ih=>
   rw[List.flatMap_cons,List.flatMap_cons,nB,List.map_append,←nB,←nB,ih]
   congr 1
   have h:∀ x,(UInt8.ofNat (x % 256)).toNat=x % 256:=fun x=>byte_nat (Nat.mod_lt _ (by omega))
   simp only[nB,w4,four,List.map_cons,List.map_nil,h]
theorem w4_len(l:List Nat):(l.flatMap w4).length=4*l.length:=by
 induction l with
 | nil=>rfl
 | cons w r ih=>rw[List.flatMap_cons,List.length_append,ih,List.length_cons];simp[w4,four];omega
set_option maxRecDepth 100000 in
set_option maxHeartbeats 2000000 in
theorem packU(n:Nat)(hl:(limbs n).length≤20000000):Fn Tryz.prog 259 [.d (enL (limbs n))] [.d (.l ((byL n).map enBy))]:=by
 have hraw:=raw_cut n
 have hdg:=limbs_dg n
 refine Fn.of Tryz.func259 rfl (by kernel_rfl) Tryz.ntmps259 Tryz.results259 rfl fun w0 S0=>?_
 refine wk ?_
 refine c1 (cutX n (by omega)) ?_
 generalize limbs n=L at hl hraw hdg ⊢
 refine wk ?_
 refine AC.rowVar 3 45 5 1 rfl rfl ?_
 refine AC.loop (X:=Nat) (fun i=>⟨[(3,.r 45 i),(7,.d (enL L)),(8,.d (.v (.int .i64 (L.length:Int)))),(9,.d (.v (.int .i64 (i:Int))))],[(45,.row i 5 1 (((L.take i).flatMap w4).map enBy))]⟩) (fun i=>i≤L.length) (fun i=>L.length-i) 0 (Nat.zero_le _) ⟨rfl,rfl,rfl,rfl,trivial⟩ ⟨rfl,trivial⟩ ?_
 intro i hi
 refine wk ?_
 refine s1 (fun h1=>?_) (fun h1=>?_)
 ·have hi':i<L.length:=by omega
  have hget:L[i]?=some L[i]:=List.getElem?_eq_getElem hi'
  have hs:(L.take (i+1)).flatMap w4=(L.take i).flatMap w4++w4 L[i]:=by
   rw[List.take_succ_eq_append_getElem hi',List.flatMap_append]
   simp
  have hlt:=hdg L[i] (List.getElem_mem hi')
  have hle:=w4_len (L.take i)
  rw[List.length_take,Nat.min_eq_left (by omega)]at hle
  generalize L[i]=w at hget hs hlt
  refine wk ?_
  ((try (first | intro K ms hms hK | intro K hK));(first | apply Chain.go | apply Chain.goD);exact rfl;exact rfl;exact Loc.conv rfl rfl (wrap8 w))
  refine wk ?_
  ((try (first | intro K ms hms hK | intro K hK));(first | apply Chain.go | apply Chain.goD);exact rfl;exact rfl;exact Loc.shr 8 rfl rfl rfl rfl (shr_nat w 8))
  ((try (first | intro K ms hms hK | intro K hK));(first | apply Chain.go | apply Chain.goD);exact rfl;exact rfl;exact Loc.conv rfl rfl (wrap8 _))
  refine wk ?_
  ((try (first | intro K ms hms hK | intro K hK));(first | apply Chain.go | apply Chain.goD);exact rfl;exact rfl;exact Loc.shr 16 rfl rfl rfl rfl (shr_nat w 16))
  ((try (first | intro K ms hms hK | intro K hK));(first | apply Chain.go | apply Chain.goD);exact rfl;exact rfl;exact Loc.conv rfl rfl (wrap8 _))
  refine wk ?_
  ((try (first | intro K ms hms hK | intro K hK));(first | apply Chain.go | apply Chain.goD);exact rfl;exact rfl;exact Loc.shr 24 rfl rfl rfl rfl (shr_nat w 24))
  ((try (first | intro K ms hms hK | intro K hK));(first | apply Chain.go | apply Chain.goD);exact rfl;exact rfl;exact Loc.conv rfl rfl (wrap8 _))
  refine wk ?_
  ((try (first | intro K ms hms hK | intro K hK));(first | apply Chain.ef | apply Chain.efD);exact rfl;exact rfl;exact Do.append rfl rfl rfl rfl rfl (by intro y hy;simp at hy;rcases hy with h | h | h | h<;>subst h<;>rfl) (by rw[List.length_map,hle];show (4*i+4)*1≤_;omega);exact rfl;exact rfl)
  refine wk ?_
  exact⟨i+1,by omega,by omega,⟨rfl,rfl,rfl,rfl,trivial⟩,⟨by dsimp only;rw[hs,List.map_append,w4_en];rfl,trivial⟩⟩
 ·have hiL:i=L.length:=by omega
  subst hiL
  rw[List.take_length]
  have hnb:=nB_raw L
  rw[←hnb]at hraw
  have hlen2:=w4_len L
  generalize L.flatMap w4=B at hraw hlen2 ⊢
  have hB:B.length≤100000000:=by omega
  clear hlen2 hnb hdg hi h1 hl
  refine wk ?_
  refine AC.frzVar 3 rfl rfl ?_
  refine AC.loop (X:=Nat) (fun m=>⟨[(3,.d (.l ((B.take m).map enBy)))],[]⟩) (fun m=>m≤B.length∧cutz (nB (B.take m))=digs 256 n) (fun m=>m) B.length ⟨Nat.le_refl _,by rw[List.take_length];exact hraw⟩ ⟨by rw[List.take_length];rfl,trivial⟩ trivial ?_
  intro m ⟨hm,hc⟩
  have hml:(B.take m).length=m:=by rw[List.length_take];omega
  refine wk ?_
  refine s1 (fun h2=>?_) (fun h2=>?_)
  ·obtain⟨k,rfl⟩:∃ k,m=k+1:=⟨m-1,by omega⟩
   have hk:k<B.length:=by omega
   have hgt:(B.take (k+1))[k]?=some B[k]:=by
    rw[List.getElem?_take_of_lt (by omega),List.getElem?_eq_getElem hk]
   have htk:B.take (k+1)=B.take k++[B[k]]:=List.take_succ_eq_append_getElem hk
   have htt:(B.take (k+1)).take k=B.take k:=by
    rw[List.take_take,Nat.min_eq_left (by omega)]
   generalize B[k]=c at hgt htk
   refine wk ?_
   ((try (first | intro K ms hms hK | intro K hK));(first | apply Chain.go | apply Chain.goD);exact rfl;exact rfl;exact Loc.idxM (i:=k) rfl rfl rfl (by omega) hgt rfl)
   refine wk ?_
   refine s1 (fun h3=>?_) (fun h3=>?_)
   ·have h3:c.toNat=0:=by omega
    refine wk ?_
    ((try (first | intro K ms hms hK | intro K hK));(first | apply Chain.go | apply Chain.goD);exact rfl;exact rfl;exact Loc.partM (f:=enBy) k rfl rfl rfl (by omega) (by omega))
    refine wk ?_
    refine⟨k,⟨by omega,?_⟩,by omega,⟨by rw[htt];rfl,trivial⟩,trivial⟩
    rw[←hc,htk,nB,nB,List.map_append]
    show _=cutz (_++[c.toNat])
    rw[h3,cutz_concat0]
   ·have h3:c.toNat≠0:=by omega
    have hres:B.take (k+1)=byL n:=by
     refine cut_bytes ?_
     rw[←hc,htk,nB,List.map_append]
     exact(cutz_concat _ h3).symm
    refine wk ?_
    rw[hres]
    exact⟨.d rfl (.inl rfl),trivial⟩
  ·have hm0:m=0:=by omega
   subst hm0
   have hres:B.take 0=byL n:=cut_bytes (by rw[←hc];rfl)
   refine wk ?_
   rw[hres]
   exact⟨.d rfl (.inl rfl),trivial⟩
end Go.Proofs.YtbbpecfapohlaaaGreatDoor
namespace Go.Proofs.YtbbpecfapohlaaaGreatDoor
open Go.RowKit
attribute [local irreducible] AC Do St
section
variable {P:Program}{C:Cx}{o:Oper}{σ:AS}
end
section
variable {p q:Rat}{k:Nat}
end
def enK(q:Rat):List D:=[.v (.bool (decide (q.num<0))),.v (.string (tx (byL q.num.natAbs))),.v (.string (tx (byL q.den)))]
set_option maxRecDepth 100000 in
set_option maxHeartbeats 2000000 in
theorem keyOfR{k:Nat}(q:Rat)(h:Bd k q)(hk:k≤100000000):Fn Tryz.prog 227 [.g (enR q)] [.g (enK q)]:=by
 have h1:(limbs q.num.natAbs).length≤20000000:=by have:=limbs_len_bd h.1;omega
 have h2:(limbs q.den).length≤20000000:=by have:=limbs_len_bd h.2;omega
 refine Fn.of Tryz.func227 rfl (by kernel_rfl) Tryz.ntmps227 Tryz.results227 rfl fun w0 S0=>?_
 refine wk ?_
 refine c1 (packU _ h1) ?_
 ((try (first | intro K ms hms hK | intro K hK));(first | apply Chain.go | apply Chain.goD);exact rfl;exact rfl;exact Loc.toStr (e:=5) rfl rfl (by kernel_rfl) (by kernel_rfl) (by kernel_rfl))
 refine wk ?_
 refine c1 (belowR q) ?_
 refine c1 (packU _ h2) ?_
 ((try (first | intro K ms hms hK | intro K hK));(first | apply Chain.go | apply Chain.goD);exact rfl;exact rfl;exact Loc.toStr (e:=5) rfl rfl (by kernel_rfl) (by kernel_rfl) (by kernel_rfl))
 refine wk ?_
 exact⟨.cn rfl rfl inferInstance rfl ⟨.inl rfl,.inl rfl,.inl rfl,trivial⟩,trivial⟩
end Go.Proofs.YtbbpecfapohlaaaGreatDoor
namespace Go.Proofs.YtbbpecfapohlaaaGreatDoor
open Go.RowKit
attribute [local irreducible] AC Do St
end Go.Proofs.YtbbpecfapohlaaaGreatDoor
namespace Go.Proofs.YtbbpecfapohlaaaGreatDoor
open Go.RowKit
attribute [local irreducible] AC Do St
theorem decD_split{m:Nat}(h:¬ m / 10=0):Lib.decDigits m=Lib.decDigits (m / 10)++[UInt8.ofNat (48+m % 10)]:=by
 rw[Lib.decDigits,dif_neg (by omega)]
theorem decD_one{m:Nat}(h:m / 10=0):Lib.decDigits m=[UInt8.ofNat (48+m % 10)]:=by
 rw[Lib.decDigits,dif_pos (by omega),Nat.mod_eq_of_lt (by omega)]
theorem decD_len(n:Nat):(Lib.decDigits n).length≤(bits n).length+1:=by
 induction n using Nat.strongRecOn with
 | _ n ih=>
   by_cases h:n / 10=0
   ·rw[decD_one h];simp
   ·rw[decD_split h,List.length_append]
    have h1:=ih (n / 10) (by omega)
    have h2:(bits (n / 10)).length<(bits n).length:=by
     rw[bits_len,bits_len]
     have h3:n / 10≤n / 2:=by omega
     have h4:=digs_len_mono (B:=2) (by omega) h3
     rw[digs_pos (n:=n) (by omega) (by omega),List.length_cons]
     omega
    simp only[List.length_cons,List.length_nil]
    omega
theorem printD(q:Rat):printL q=(if q.num<0 then [45]else [])++(Lib.decDigits q.num.natAbs++if q.den=1 then []else 47::Lib.decDigits q.den):=by
 unfold printL
 rw[textL_dec,textL_dec]
end Go.Proofs.YtbbpecfapohlaaaGreatDoor
