import Derived.Test.YtbbpecfapohlaaaGreatDoorRtA
namespace Go.Proofs.YtbbpecfapohlaaaGreatDoor
open Go.RowKit
attribute [local irreducible] AC Do St
set_option maxRecDepth 100000
set_option maxHeartbeats 4000000
theorem madeR(neg:Bool){l m:List Nat}(hl:DgU l)(hm:DgU m)(h1:l.length≤100000000)(h2:m.length≤100000000)(hy:0<dval 4294967296 m):Fn Tryz.prog 238 [.d (.v (.bool neg)),.d (enL l),.d (enL m)] [.g (enR (mkRat (sgn neg (dval 4294967296 l)) (dval 4294967296 m)))]:=by
 obtain⟨q1,q2,q3⟩:=made_num neg (dval 4294967296 l) (dval 4294967296 m) (by omega)
 have hgl:=gcdG hl hm h1 h2
 have hxl:(limbs (dval 4294967296 l)).length≤l.length:=(digs_take_len (B:=4294967296) (by decide) hl).2
 have hyl:(limbs (dval 4294967296 m)).length≤m.length:=(digs_take_len (B:=4294967296) (by decide) hm).2
 have hgp:0<Nat.gcd (dval 4294967296 l) (dval 4294967296 m):=Nat.gcd_pos_of_pos_right _ hy
 have hgx:Nat.gcd (dval 4294967296 l) (dval 4294967296 m)≤dval 4294967296 m:=Nat.gcd_le_right _ hy
 have hgd:(limbs (Nat.gcd (dval 4294967296 l) (dval 4294967296 m))).length≤100000000:=Nat.le_trans (digs_len_mono (by omega) hgx) (by unfold limbs at hyl;omega)
 have hdx:0<dval 4294967296 l→0<dval 4294967296 l / Nat.gcd (dval 4294967296 l) (dval 4294967296 m):=fun h=>Nat.div_pos (Nat.le_of_dvd h (Nat.gcd_dvd_left _ _)) hgp
 have hdy:0<dval 4294967296 m / Nat.gcd (dval 4294967296 l) (dval 4294967296 m):=Nat.div_pos (Nat.le_of_dvd hy (Nat.gcd_dvd_right _ _)) hgp
 have hd1:=divG hl (limbsDg (Nat.gcd (dval 4294967296 l) (dval 4294967296 m))) h1 hgd (by rw[limbs_val];exact hgp)
 have hd2:=divG hm (limbsDg (Nat.gcd (dval 4294967296 l) (dval 4294967296 m))) h2 hgd (by rw[limbs_val];exact hgp)
 rw[limbs_val]at hd1 hd2
 have hn1:=normG hl h1
 have hn2:=normG hm h2
 have h1':DgU [1]:=fun x hx=>by simp at hx;omega
 have hc1:=cmpG (limbsDg (Nat.gcd (dval 4294967296 l) (dval 4294967296 m))) h1'
 have hc2:=cmpG (limbsDg (dval 4294967296 m / Nat.gcd (dval 4294967296 l) (dval 4294967296 m))) h1'
 rw[limbs_val,show dval 4294967296 [1]=1 from rfl]at hc1 hc2
 have hl1:(limbs (dval 4294967296 l / Nat.gcd (dval 4294967296 l) (dval 4294967296 m))).length≤100000000:=Nat.le_trans (digs_len_mono (by omega) (Nat.div_le_self _ _)) (by unfold limbs at hxl;omega)
 have hl2:(limbs (dval 4294967296 m / Nat.gcd (dval 4294967296 l) (dval 4294967296 m))).length≤100000000:=Nat.le_trans (digs_len_mono (by omega) (Nat.div_le_self _ _)) (by unfold limbs at hyl;omega)
 have hm1:=normG (limbsDg (dval 4294967296 l / Nat.gcd (dval 4294967296 l) (dval 4294967296 m))) hl1
 have hm2:=normG (limbsDg (dval 4294967296 m / Nat.gcd (dval 4294967296 l) (dval 4294967296 m))) hl2
 rw[limbs_val]at hm1 hm2
 have h1R:=oneR
 have hz:∀ {a:Nat},0<a→(cmpN a 1=0∧a=1)∨(cmpN a 1=1∧a≠1):=fun {a} h=>by
  rcases Nat.lt_or_ge 1 a with h2 | h2
  ·exact .inr ⟨cmpN_gt h2,by omega⟩
  ·obtain rfl:a=1:=by omega
   exact .inl ⟨cmpN_eq 1,rfl⟩
 unfold enR
 rw[q1,q2,q3]
 have hx0:(decide (0<dval 4294967296 l)=true∧0<(limbs (dval 4294967296 l / Nat.gcd (dval 4294967296 l) (dval 4294967296 m))).length)∨(decide (0<dval 4294967296 l)=false∧(limbs (dval 4294967296 l / Nat.gcd (dval 4294967296 l) (dval 4294967296 m))).length=0):=by
  rcases Nat.eq_zero_or_pos (dval 4294967296 l)with h | h
  ·exact .inr ⟨decide_eq_false (by omega),by rw[h,Nat.zero_div,limbs_zero];rfl⟩
  ·refine .inl ⟨decide_eq_true h,List.length_pos_iff.2 fun e=>?_⟩
   have:=hdx h
   have:=limbs_eq_nil.1 e
   omega
 have hg1:Nat.gcd (dval 4294967296 l) (dval 4294967296 m)=1→dval 4294967296 l / Nat.gcd (dval 4294967296 l) (dval 4294967296 m)=dval 4294967296 l∧dval 4294967296 m / Nat.gcd (dval 4294967296 l) (dval 4294967296 m)=dval 4294967296 m:=fun e=>by rw[e,Nat.div_one,Nat.div_one];exact⟨rfl,rfl⟩
 have hneg:neg=false∨(neg=true∧decide (0<dval 4294967296 l)=true∧0<(limbs (dval 4294967296 l / Nat.gcd (dval 4294967296 l) (dval 4294967296 m))).length)∨(neg=true∧decide (0<dval 4294967296 l)=false∧(limbs (dval 4294967296 l / Nat.gcd (dval 4294967296 l) (dval 4294967296 m))).length=0):=by
  cases neg
  ·exact .inl rfl
  ·exact .inr (hx0.imp (fun h=>⟨rfl,h⟩) (fun h=>⟨rfl,h⟩))
 have hgc:=hz hgp
 clear hx0
 have hdc:=hz hdy
 clear hgx hgd hdx hl1 hl2 hxl hyl q1 q2 q3 hgp hdy hz hy h1 h2 hl hm h1'
 generalize Nat.gcd (dval 4294967296 l) (dval 4294967296 m)=g at*
 generalize decide (0<dval 4294967296 l)=bx at*
 generalize dval 4294967296 l / g=xg at*
 generalize dval 4294967296 m / g=yg at*
 rcases hgc with ⟨e1,e2⟩ | ⟨e1,e2⟩
 ·obtain⟨e3,e4⟩:=hg1 e2
  rw[←e3]at hn1
  rw[←e4]at hn2
  rw[e1]at hc1
  clear e3 e4 hd1 hd2 hm1 hm2 hg1 e1
  rcases hdc with ⟨e1,e2⟩ | ⟨e1,e2⟩
  ·rw[e1]at hc2
   rw[show denL yg=[]from if_pos e2]
   rcases hneg with rfl | ⟨rfl,rfl,e3⟩ | ⟨rfl,rfl,e3⟩
   all_goals
    refine Fn.of Tryz.func238 rfl (by kernel_rfl) Tryz.ntmps238 Tryz.results238 rfl fun w0 S0=>?_
    refine wa ?_
    refine c1 hc1 ?_
    refine wa ?_
    refine c1 hn1 ?_
    refine wa ?_
    exact⟨.cn rfl rfl inferInstance rfl ⟨.inl rfl,.inl rfl,by first | exact .inl rfl | exact .inr rfl,trivial⟩,trivial⟩
  ·rw[e1]at hc2
   rw[show denL yg=limbs yg from if_neg e2]
   rcases hneg with rfl | ⟨rfl,rfl,e3⟩ | ⟨rfl,rfl,e3⟩
   all_goals
    refine Fn.of Tryz.func238 rfl (by kernel_rfl) Tryz.ntmps238 Tryz.results238 rfl fun w0 S0=>?_
    refine wa ?_
    refine c1 hc1 ?_
    refine wa ?_
    refine c1 hn1 ?_
    refine wa ?_
    exact⟨.cn rfl rfl inferInstance rfl ⟨.inl rfl,.inl rfl,by first | exact .inl rfl | exact .inr rfl,trivial⟩,trivial⟩
 ·rw[e1]at hc1
  clear hn1 hn2 hg1 e1
  rcases hdc with ⟨e1,e2⟩ | ⟨e1,e2⟩
  ·rw[e1]at hc2
   rw[show denL yg=[]from if_pos e2]
   rcases hneg with rfl | ⟨rfl,rfl,e3⟩ | ⟨rfl,rfl,e3⟩
   all_goals
    refine Fn.of Tryz.func238 rfl (by kernel_rfl) Tryz.ntmps238 Tryz.results238 rfl fun w0 S0=>?_
    refine wa ?_
    refine c1 hc1 ?_
    refine wa ?_
    refine c1 hd1 ?_
    refine wa ?_
    refine c1 hm1 ?_
    refine wa ?_
    exact⟨.cn rfl rfl inferInstance rfl ⟨.inl rfl,.inl rfl,by first | exact .inl rfl | exact .inr rfl,trivial⟩,trivial⟩
  ·rw[e1]at hc2
   rw[show denL yg=limbs yg from if_neg e2]
   rcases hneg with rfl | ⟨rfl,rfl,e3⟩ | ⟨rfl,rfl,e3⟩
   all_goals
    refine Fn.of Tryz.func238 rfl (by kernel_rfl) Tryz.ntmps238 Tryz.results238 rfl fun w0 S0=>?_
    refine wa ?_
    refine c1 hc1 ?_
    refine wa ?_
    refine c1 hd1 ?_
    refine wa ?_
    refine c1 hm1 ?_
    refine wa ?_
    exact⟨.cn rfl rfl inferInstance rfl ⟨.inl rfl,.inl rfl,by first | exact .inl rfl | exact .inr rfl,trivial⟩,trivial⟩
end Go.Proofs.YtbbpecfapohlaaaGreatDoor
