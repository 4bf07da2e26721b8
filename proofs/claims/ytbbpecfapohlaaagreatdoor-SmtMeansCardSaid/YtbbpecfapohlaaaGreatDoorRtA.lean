import Derived.Test.YtbbpecfapohlaaaGreatDoorTy
namespace Go.Proofs.YtbbpecfapohlaaaGreatDoor
open Go.RowKit
attribute [local irreducible] AC Do St
set_option maxRecDepth 100000
set_option maxHeartbeats 4000000
theorem sgn_of{q:Rat}{nb:Bool}{x:Nat}(h:decide (q.num<0)=nb)(hx:q.num.natAbs=x):q.num=sgn nb x:=by subst h hx;exact(sgn_neg q.num).symm
theorem rat_add_sum{a b:Rat}{na nb:Bool}{x y d e:Nat}(h1:decide (a.num<0)=na)(h2:a.num.natAbs=x)(h3:a.den=d)(h4:decide (b.num<0)=nb)(h5:b.num.natAbs=y)(h6:b.den=e):
  a+b=mkRat (sgn (sumS na (x*e) nb (y*d)).1 (sumS na (x*e) nb (y*d)).2) (d*e):=by
 rw[sumS_eq,sgn_scale,sgn_scale,←sgn_of h1 h2,←sgn_of h4 h5,rat_add_made,h3,h6]
theorem rat_mul_sgn{a b:Rat}{na nb:Bool}{x y d e:Nat}(h1:decide (a.num<0)=na)(h2:a.num.natAbs=x)(h3:a.den=d)(h4:decide (b.num<0)=nb)(h5:b.num.natAbs=y)(h6:b.den=e):
  a*b=mkRat (sgn (na != nb) (x*y)) (d*e):=by
 rw[sgn_mul,←sgn_of h1 h2,←sgn_of h4 h5,rat_mul_made,h3,h6]
theorem limbs_take{l:List Nat}(hd:DgU l){n:Nat}(hn:n≤l.length)(hv:dval 4294967296 (l.take n)=dval 4294967296 l)(hz:n=0∨l.getD (n-1) 0≠0):limbs (dval 4294967296 l)=l.take n:=digs_take (by decide) hd hn hv hz
theorem cutU(l:List Nat)(hd:DgU l)(hb:l.length≤1000000000):Fn Tryz.prog 244 [.d (enL l)] [.d (enL (limbs (dval 4294967296 l)))]:=by
 refine Fn.of Tryz.func244 rfl (by kernel_rfl) Tryz.ntmps244 Tryz.results244 rfl fun w0 S0=>?_
 refine wa ?_
 refine AC.loop (X:=Nat) (fun n=>⟨[(0,.d (enL (l.take n)))],[]⟩) (fun n=>n≤l.length∧dval 4294967296 (l.take n)=dval 4294967296 l) (fun n=>n) l.length ⟨Nat.le_refl _,by rw[List.take_length]⟩ ⟨by rw[List.take_length];rfl,trivial⟩ trivial ?_
 intro n ⟨hn,hv⟩
 have hl:(l.take n).length=n:=by rw[List.length_take,Nat.min_eq_left hn]
 cases n with
 | zero=>
   have h0:=limbs_take hd (Nat.zero_le _) hv (.inl rfl)
   refine wa ?_
   rw[h0]
   exact⟨.d rfl (.inl rfl),trivial⟩
 | succ m=>
   have hg:(l.take (m+1))[m]?=some l[m]:=by rw[List.getElem?_take_of_lt (by omega)];exact List.getElem?_eq_getElem (by omega)
   have e:((l.take (m+1)).length:Int)-1=(m:Int):=by omega
   have e2:=getD_in l 0 (i:=m) (by omega)
   generalize l[m]=b at hg e2
   by_cases hb:b=0
   ·subst hb
    have hv2:=(dval_take_pred (B:=4294967296) (n:=m+1) (by omega) e2).trans hv
    have ht:(l.take (m+1)).take m=l.take m:=by rw[List.take_take,Nat.min_eq_left (by omega)]
    refine wa ?_
    rw[e]
    refine wa ?_
    rw[e]
    ((try (first | intro K ms hms hK | intro K hK));(first | apply Chain.go | apply Chain.goD);exact rfl;exact rfl;exact Loc.partM m rfl rfl rfl rfl (by omega))
    refine wa ?_
    exact⟨m,⟨by omega,hv2⟩,by omega,⟨by rw[ht];rfl,trivial⟩,trivial⟩
   ·have h0:=limbs_take hd hn hv (.inr (by rw[Nat.add_sub_cancel,e2];exact hb))
    refine wa ?_
    rw[e]
    refine wa ?_
    rw[h0]
    exact⟨.d rfl (.inl rfl),trivial⟩
theorem lzU(t:Nat)(h0:0<t)(h1:t<4294967296):Fn Tryz.prog 277 [.d (.v (.int .u32 (t:Int)))] [.d (.v (.int .i64 ((32-Lib.bitLen t:Nat):Int)))]:=
 ⟨⟨_,Tryz.func277,by kernel_rfl,by kernel_rfl⟩,fun S w vs hS hv=>by
   obtain⟨v,rfl,ha⟩:=hv.one
   have e1:v= .int .u32 (t:Int):=by cases ha;rfl
   subst e1
   refine(lz_any t w h0 h1).mono ?_
   rintro e w' ⟨rfl,rfl⟩
   exact⟨_,rfl,Below.refl _ _,RD.v rfl⟩⟩
theorem bitsP{l:List Nat}(hd:DgU l)(h0:0<dval 4294967296 l)(hl:l.length≤100000000):∃ b:Int,0<b∧Fn Tryz.prog 241 [.d (enL l)] [.d (.v (.int .i64 b))]:=by
 have hc:=cutU l hd (by omega)
 have hpl:(limbs (dval 4294967296 l)).length≤l.length:=(digs_take_len (B:=4294967296) (by decide) hd).2
 have hnr:=limbs_nrm (dval 4294967296 l)
 have hdg:=limbs_dg (dval 4294967296 l)
 have hne:limbs (dval 4294967296 l)≠[]:=fun e=>by have:=limbs_eq_nil.1 e;omega
 generalize limbs (dval 4294967296 l)=L at hc hpl hnr hdg hne
 have hp:0<L.length:=List.length_pos_iff.2 hne
 have hg:L[L.length-1]?=some L[L.length-1]:=List.getElem?_eq_getElem (by omega)
 have ht:L[L.length-1]≠0:=fun e=>hnr (by rw[List.getLast?_eq_getElem?,hg,e])
 have ht2:=hdg _ (List.getElem_mem (show L.length-1<L.length by omega))
 generalize L[L.length-1]=t at hg ht ht2
 have hz:=lzU t (by omega) ht2
 have hb:=bitLen_bd (by omega) ht2
 refine⟨32*(L.length:Int)-((32-Lib.bitLen t:Nat):Int),by omega,?_⟩
 have e:(L.length:Int)-1=((L.length-1:Nat):Int):=by omega
 generalize hk:L.length-1=k at hg e
 have hs:32-Lib.bitLen t≤32:=by omega
 generalize (32-Lib.bitLen t)=s at hz hs
 refine Fn.of Tryz.func241 rfl (by kernel_rfl) Tryz.ntmps241 Tryz.results241 rfl fun w0 S0=>?_
 refine wa ?_
 rw[e]
 refine wa ?_
 exact⟨.d rfl (.inl rfl),trivial⟩
theorem oneR:Fn Tryz.prog 245 [] [.d (enL [1])]:=by
 refine Fn.of Tryz.func245 rfl (by kernel_rfl) Tryz.ntmps245 Tryz.results245 rfl fun w0 S0=>?_
 refine wa ?_
 exact⟨.d rfl (.inl rfl),trivial⟩
theorem belowR(p:Rat):Fn Tryz.prog 212 [.g (enR p)] [.d (enL (limbs p.den))]:=by
 have h1:=oneR
 unfold enR
 by_cases h:p.den=1
 ·have e:denL p.den=[]:=if_pos h
  have hl:([]:List Nat).length=0:=rfl
  rw[e,h,limbs_one]
  refine Fn.of Tryz.func212 rfl (by kernel_rfl) Tryz.ntmps212 Tryz.results212 rfl fun w0 S0=>?_
  refine wa ?_
  exact⟨.d rfl (.inl rfl),trivial⟩
 ·have e:denL p.den=limbs p.den:=if_neg h
  have hl:(limbs p.den).length≠0:=fun e=>absurd (limbs_eq_nil.1 (List.eq_nil_of_length_eq_zero e)) p.den_nz
  rw[e]
  refine Fn.of Tryz.func212 rfl (by kernel_rfl) Tryz.ntmps212 Tryz.results212 rfl fun w0 S0=>?_
  refine wa ?_
  exact⟨.d rfl (.inl rfl),trivial⟩
end Go.Proofs.YtbbpecfapohlaaaGreatDoor
