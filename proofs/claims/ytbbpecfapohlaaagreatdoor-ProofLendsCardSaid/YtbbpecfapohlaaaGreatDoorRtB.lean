import Derived.Test.YtbbpecfapohlaaaGreatDoorLm
import Derived.Test.YtbbpecfapohlaaaGreatDoorTy
namespace Go.Proofs.YtbbpecfapohlaaaGreatDoor
open Go.RowKit
attribute [local irreducible] AC Do St
set_option maxRecDepth 100000
set_option maxHeartbeats 4000000
theorem sgn_of{q:Rat}{nb:Bool}{x:Nat}(h:decide (q.num<0)=nb)(hx:q.num.natAbs=x):q.num=sgn nb x:=by subst h hx;exact(sgn_neg q.num).symm
theorem rat_add_sum{a b:Rat}{na nb:Bool}{x y d e:Nat}(h1:decide (a.num<0)=na)(h2:a.num.natAbs=x)(h3:a.den=d)(h4:decide (b.num<0)=nb)(h5:b.num.natAbs=y)(h6:b.den=e):
  a+b=mkRat (sgn (sumS na (x*e) nb (y*d)).1 (sumS na (x*e) nb (y*d)).2) (d*e):=by
 rw[sumS_eq,sgn_scale,sgn_scale,←sgn_of h1 h2,←sgn_of h4 h5,rat_add_made,h3,h6]
theorem rat_mul_sgn{a b:Rat}{na nb:Bool}{x y d e:Nat}(h1:decide (a.num<0)=na)(h2:a.num.natAbs=x)(h3:a.den=d)(h4:decide (b.num<0)=nb)(h5:b.num.natAbs=y)(h6:b.den=e):
  a*b=mkRat (sgn (na != nb) (x*y)) (d*e):=by
 rw[sgn_mul,←sgn_of h1 h2,←sgn_of h4 h5,rat_mul_made,h3,h6]
theorem limbs_take{l:List Nat}(hd:DgU l){n:Nat}(hn:n≤l.length)(hv:dval 4294967296 (l.take n)=dval 4294967296 l)(hz:n=0∨l.getD (n-1) 0≠0):limbs (dval 4294967296 l)=l.take n:=digs_take (by decide) hd hn hv hz
theorem cutU(l:List Nat)(hd:DgU l)(hb:l.length≤1000000000):Fn Tryz.prog 244 [.d (enL l)] [.d (enL (limbs (dval 4294967296 l)))]:=by
 refine Fn.of Tryz.func244 rfl (by kernel_rfl) Tryz.ntmps244 Tryz.results244 rfl fun w0 S0=>?_;refine wa ?_;refine AC.loop (X:=Nat) (fun n=>⟨[(0,.d (enL (l.take n)))],[]⟩) (fun n=>n≤l.length∧dval 4294967296 (l.take n)=dval 4294967296 l) (fun n=>n) l.length ⟨Nat.le_refl _,by rw[List.take_length]⟩ ⟨by rw[List.take_length];rfl,trivial⟩ trivial ?_;intro n ⟨hn,hv⟩;have hl:(l.take n).length=n:=by rw[List.length_take,Nat.min_eq_left hn]
 cases n with
 | zero=>
   have h0:=limbs_take hd (Nat.zero_le _) hv (.inl rfl);refine wa ?_;rw[h0];exact⟨.d rfl (.inl rfl),trivial⟩
 | succ m=>
   have hg:(l.take (m+1))[m]?=some l[m]:=by rw[List.getElem?_take_of_lt (by omega)];exact List.getElem?_eq_getElem (by omega)
   have e:((l.take (m+1)).length:Int)-1=(m:Int):=by omega
   have e2:=getD_in l 0 (i:=m) (by omega);generalize l[m]=b at hg e2;by_cases hb:b=0
   ·subst hb;have hv2:=(dval_take_pred (B:=4294967296) (n:=m+1) (by omega) e2).trans hv;have ht:(l.take (m+1)).take m=l.take m:=by rw[List.take_take,Nat.min_eq_left (by omega)]
    refine wa ?_;rw[e];refine wa ?_;rw[e];((try (first | intro K ms hms hK | intro K hK));(first | apply Chain.go | apply Chain.goD);exact rfl;exact rfl;exact Loc.partM m rfl rfl rfl rfl (by omega));refine wa ?_;exact⟨m,⟨by omega,hv2⟩,by omega,⟨by rw[ht];rfl,trivial⟩,trivial⟩
   ·have h0:=limbs_take hd hn hv (.inr (by rw[Nat.add_sub_cancel,e2];exact hb));refine wa ?_;rw[e];refine wa ?_;rw[h0];exact⟨.d rfl (.inl rfl),trivial⟩
theorem lzU(t:Nat)(h0:0<t)(h1:t<4294967296):Fn Tryz.prog 277 [.d (.v (.int .u32 (t:Int)))] [.d (.v (.int .i64 ((32-Lib.bitLen t:Nat):Int)))]:=
 ⟨⟨_,Tryz.func277,by kernel_rfl,by kernel_rfl⟩,fun S w vs hS hv=>by
   obtain⟨v,rfl,ha⟩:=hv.one;have e1:v= .int .u32 (t:Int):=by cases ha;rfl
   subst e1;refine(lz_any t w h0 h1).mono ?_;rintro e w' ⟨rfl,rfl⟩;exact⟨_,rfl,Below.refl _ _,RD.v rfl⟩⟩
theorem bitsP{l:List Nat}(hd:DgU l)(h0:0<dval 4294967296 l)(hl:l.length≤100000000):∃ b:Int,0<b∧Fn Tryz.prog 241 [.d (enL l)] [.d (.v (.int .i64 b))]:=by
 have hc:=cutU l hd (by omega);have hpl:(limbs (dval 4294967296 l)).length≤l.length:=(digs_take_len (B:=4294967296) (by decide) hd).2;have hnr:=limbs_nrm (dval 4294967296 l);have hdg:=limbs_dg (dval 4294967296 l);have hne:limbs (dval 4294967296 l)≠[]:=fun e=>by have:=limbs_eq_nil.1 e;omega
 generalize limbs (dval 4294967296 l)=L at hc hpl hnr hdg hne;have hp:0<L.length:=List.length_pos_iff.2 hne;have hg:L[L.length-1]?=some L[L.length-1]:=List.getElem?_eq_getElem (by omega);have ht:L[L.length-1]≠0:=fun e=>hnr (by rw[List.getLast?_eq_getElem?,hg,e]);have ht2:=hdg _ (List.getElem_mem (show L.length-1<L.length by omega));generalize L[L.length-1]=t at hg ht ht2;have hz:=lzU t (by omega) ht2;have hb:=bitLen_bd (by omega) ht2;refine⟨32*(L.length:Int)-((32-Lib.bitLen t:Nat):Int),by omega,?_⟩;have e:(L.length:Int)-1=((L.length-1:Nat):Int):=by omega
 generalize hk:L.length-1=k at hg e;have hs:32-Lib.bitLen t≤32:=by omega
 generalize (32-Lib.bitLen t)=s at hz hs;refine Fn.of Tryz.func241 rfl (by kernel_rfl) Tryz.ntmps241 Tryz.results241 rfl fun w0 S0=>?_;refine wa ?_;rw[e];refine wa ?_;exact⟨.d rfl (.inl rfl),trivial⟩
theorem oneR:Fn Tryz.prog 245 [] [.d (enL [1])]:=by
 refine Fn.of Tryz.func245 rfl (by kernel_rfl) Tryz.ntmps245 Tryz.results245 rfl fun w0 S0=>?_;refine wa ?_;exact⟨.d rfl (.inl rfl),trivial⟩
theorem belowR(p:Rat):Fn Tryz.prog 212 [.g (enR p)] [.d (enL (limbs p.den))]:=by
 have h1:=oneR;unfold enR;by_cases h:p.den=1
 ·have e:denL p.den=[]:=if_pos h;have hl:([]:List Nat).length=0:=rfl;rw[e,h,limbs_one];refine Fn.of Tryz.func212 rfl (by kernel_rfl) Tryz.ntmps212 Tryz.results212 rfl fun w0 S0=>?_;refine wa ?_;exact⟨.d rfl (.inl rfl),trivial⟩
 ·have e:denL p.den=limbs p.den:=if_neg h;have hl:(limbs p.den).length≠0:=fun e=>absurd (limbs_eq_nil.1 (List.eq_nil_of_length_eq_zero e)) p.den_nz;rw[e];refine Fn.of Tryz.func212 rfl (by kernel_rfl) Tryz.ntmps212 Tryz.results212 rfl fun w0 S0=>?_;refine wa ?_;exact⟨.d rfl (.inl rfl),trivial⟩
end Go.Proofs.YtbbpecfapohlaaaGreatDoor
namespace Go.Proofs.YtbbpecfapohlaaaGreatDoor
open Go.RowKit
attribute [local irreducible] AC Do St
set_option maxRecDepth 100000
set_option maxHeartbeats 4000000
theorem madeR(neg:Bool){l m:List Nat}(hl:DgU l)(hm:DgU m)(h1:l.length≤100000000)(h2:m.length≤100000000)(hy:0<dval 4294967296 m):Fn Tryz.prog 238 [.d (.v (.bool neg)),.d (enL l),.d (enL m)] [.g (enR (mkRat (sgn neg (dval 4294967296 l)) (dval 4294967296 m)))]:=by
 obtain⟨q1,q2,q3⟩:=made_num neg (dval 4294967296 l) (dval 4294967296 m) (by omega);have hgl:=gcdG hl hm h1 h2;have hxl:(limbs (dval 4294967296 l)).length≤l.length:=(digs_take_len (B:=4294967296) (by decide) hl).2;have hyl:(limbs (dval 4294967296 m)).length≤m.length:=(digs_take_len (B:=4294967296) (by decide) hm).2;have hgp:0<Nat.gcd (dval 4294967296 l) (dval 4294967296 m):=Nat.gcd_pos_of_pos_right _ hy;have hgx:Nat.gcd (dval 4294967296 l) (dval 4294967296 m)≤dval 4294967296 m:=Nat.gcd_le_right _ hy;have hgd:(limbs (Nat.gcd (dval 4294967296 l) (dval 4294967296 m))).length≤100000000:=Nat.le_trans (digs_len_mono (by omega) hgx) (by unfold limbs at hyl;omega);have hdx:0<dval 4294967296 l→0<dval 4294967296 l / Nat.gcd (dval 4294967296 l) (dval 4294967296 m):=fun h=>Nat.div_pos (Nat.le_of_dvd h (Nat.gcd_dvd_left _ _)) hgp;have hdy:0<dval 4294967296 m / Nat.gcd (dval 4294967296 l) (dval 4294967296 m):=Nat.div_pos (Nat.le_of_dvd hy (Nat.gcd_dvd_right _ _)) hgp;have hd1:=divG hl (limbsDg (Nat.gcd (dval 4294967296 l) (dval 4294967296 m))) h1 hgd (by rw[limbs_val];exact hgp);have hd2:=divG hm (limbsDg (Nat.gcd (dval 4294967296 l) (dval 4294967296 m))) h2 hgd (by rw[limbs_val];exact hgp);rw[limbs_val]at hd1 hd2;have hn1:=normG hl h1;have hn2:=normG hm h2;have h1':DgU [1]:=fun x hx=>by simp at hx;omega
 have hc1:=cmpG (limbsDg (Nat.gcd (dval 4294967296 l) (dval 4294967296 m))) h1';have hc2:=cmpG (limbsDg (dval 4294967296 m / Nat.gcd (dval 4294967296 l) (dval 4294967296 m))) h1';rw[limbs_val,show dval 4294967296 [1]=1 from rfl]at hc1 hc2;have hl1:(limbs (dval 4294967296 l / Nat.gcd (dval 4294967296 l) (dval 4294967296 m))).length≤100000000:=Nat.le_trans (digs_len_mono (by omega) (Nat.div_le_self _ _)) (by unfold limbs at hxl;omega);have hl2:(limbs (dval 4294967296 m / Nat.gcd (dval 4294967296 l) (dval 4294967296 m))).length≤100000000:=Nat.le_trans (digs_len_mono (by omega) (Nat.div_le_self _ _)) (by unfold limbs at hyl;omega);have hm1:=normG (limbsDg (dval 4294967296 l / Nat.gcd (dval 4294967296 l) (dval 4294967296 m))) hl1;have hm2:=normG (limbsDg (dval 4294967296 m / Nat.gcd (dval 4294967296 l) (dval 4294967296 m))) hl2;rw[limbs_val]at hm1 hm2;have h1R:=oneR;have hz:∀ {a:Nat},0<a→(cmpN a 1=0∧a=1)∨(cmpN a 1=1∧a≠1):=fun {a} h=>by
  rcases Nat.lt_or_ge 1 a with h2 | h2
  ·exact .inr ⟨cmpN_gt h2,by omega⟩
  ·obtain rfl:a=1:=by omega
   exact .inl ⟨cmpN_eq 1,rfl⟩
 unfold enR;rw[q1,q2,q3];have hx0:(decide (0<dval 4294967296 l)=true∧0<(limbs (dval 4294967296 l / Nat.gcd (dval 4294967296 l) (dval 4294967296 m))).length)∨(decide (0<dval 4294967296 l)=false∧(limbs (dval 4294967296 l / Nat.gcd (dval 4294967296 l) (dval 4294967296 m))).length=0):=by
  rcases Nat.eq_zero_or_pos (dval 4294967296 l)with h | h
  ·exact .inr ⟨decide_eq_false (by omega),by rw[h,Nat.zero_div,limbs_zero];rfl⟩
  ·refine .inl ⟨decide_eq_true h,List.length_pos_iff.2 fun e=>?_⟩;have:=hdx h;have:=limbs_eq_nil.1 e;omega
 have hg1:Nat.gcd (dval 4294967296 l) (dval 4294967296 m)=1→dval 4294967296 l / Nat.gcd (dval 4294967296 l) (dval 4294967296 m)=dval 4294967296 l∧dval 4294967296 m / Nat.gcd (dval 4294967296 l) (dval 4294967296 m)=dval 4294967296 m:=fun e=>by rw[e,Nat.div_one,Nat.div_one];exact⟨rfl,rfl⟩
 have hneg:neg=false∨(neg=true∧decide (0<dval 4294967296 l)=true∧0<(limbs (dval 4294967296 l / Nat.gcd (dval 4294967296 l) (dval 4294967296 m))).length)∨(neg=true∧decide (0<dval 4294967296 l)=false∧(limbs (dval 4294967296 l / Nat.gcd (dval 4294967296 l) (dval 4294967296 m))).length=0):=by
  cases neg
  ·exact .inl rfl
  ·exact .inr (hx0.imp (fun h=>⟨rfl,h⟩) (fun h=>⟨rfl,h⟩))
 have hgc:=hz hgp;clear hx0;have hdc:=hz hdy;clear hgx hgd hdx hl1 hl2 hxl hyl q1 q2 q3 hgp hdy hz hy h1 h2 hl hm h1';generalize Nat.gcd (dval 4294967296 l) (dval 4294967296 m)=g at*;generalize decide (0<dval 4294967296 l)=bx at*;generalize dval 4294967296 l / g=xg at*;generalize dval 4294967296 m / g=yg at*;rcases hgc with ⟨e1,e2⟩ | ⟨e1,e2⟩
 ·obtain⟨e3,e4⟩:=hg1 e2;rw[←e3]at hn1;rw[←e4]at hn2;rw[e1]at hc1;clear e3 e4 hd1 hd2 hm1 hm2 hg1 e1;rcases hdc with ⟨e1,e2⟩ | ⟨e1,e2⟩
  ·rw[e1]at hc2;rw[show denL yg=[]from if_pos e2];rcases hneg with rfl | ⟨rfl,rfl,e3⟩ | ⟨rfl,rfl,e3⟩
   all_goals
    refine Fn.of Tryz.func238 rfl (by kernel_rfl) Tryz.ntmps238 Tryz.results238 rfl fun w0 S0=>?_;refine wa ?_;refine c1 hc1 ?_;refine wa ?_;refine c1 hn1 ?_;refine wa ?_;exact⟨.cn rfl rfl inferInstance rfl ⟨.inl rfl,.inl rfl,by first | exact .inl rfl | exact .inr rfl,trivial⟩,trivial⟩
  ·rw[e1]at hc2;rw[show denL yg=limbs yg from if_neg e2];rcases hneg with rfl | ⟨rfl,rfl,e3⟩ | ⟨rfl,rfl,e3⟩
   all_goals
    refine Fn.of Tryz.func238 rfl (by kernel_rfl) Tryz.ntmps238 Tryz.results238 rfl fun w0 S0=>?_;refine wa ?_;refine c1 hc1 ?_;refine wa ?_;refine c1 hn1 ?_;refine wa ?_;exact⟨.cn rfl rfl inferInstance rfl ⟨.inl rfl,.inl rfl,by first | exact .inl rfl | exact .inr rfl,trivial⟩,trivial⟩
 ·rw[e1]at hc1;clear hn1 hn2 hg1 e1;rcases hdc with ⟨e1,e2⟩ | ⟨e1,e2⟩
  ·rw[e1]at hc2;rw[show denL yg=[]from if_pos e2];rcases hneg with rfl | ⟨rfl,rfl,e3⟩ | ⟨rfl,rfl,e3⟩
   all_goals
    refine Fn.of Tryz.func238 rfl (by kernel_rfl) Tryz.ntmps238 Tryz.results238 rfl fun w0 S0=>?_;refine wa ?_;refine c1 hc1 ?_;refine wa ?_;refine c1 hd1 ?_;refine wa ?_;refine c1 hm1 ?_;refine wa ?_;exact⟨.cn rfl rfl inferInstance rfl ⟨.inl rfl,.inl rfl,by first | exact .inl rfl | exact .inr rfl,trivial⟩,trivial⟩
  ·rw[e1]at hc2;rw[show denL yg=limbs yg from if_neg e2];rcases hneg with rfl | ⟨rfl,rfl,e3⟩ | ⟨rfl,rfl,e3⟩
   all_goals
    refine Fn.of Tryz.func238 rfl (by kernel_rfl) Tryz.ntmps238 Tryz.results238 rfl fun w0 S0=>?_;refine wa ?_;refine c1 hc1 ?_;refine wa ?_;refine c1 hd1 ?_;refine wa ?_;refine c1 hm1 ?_;refine wa ?_;exact⟨.cn rfl rfl inferInstance rfl ⟨.inl rfl,.inl rfl,by first | exact .inl rfl | exact .inr rfl,trivial⟩,trivial⟩
end Go.Proofs.YtbbpecfapohlaaaGreatDoor
