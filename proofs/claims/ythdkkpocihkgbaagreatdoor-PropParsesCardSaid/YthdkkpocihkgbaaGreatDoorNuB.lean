import Derived.Test.YthdkkpocihkgbaaGreatDoorPf
set_option maxRecDepth 100000
set_option maxHeartbeats 8000000
namespace Go.Proofs.YthdkkpocihkgbaaGreatDoor
open Go.RowKit
attribute [local irreducible] AC Do St
theorem BZ(l:List UInt8)(a b:Nat):(tx l).extract a b=tx ((l.drop a).take (b-a)):=by
 apply ByteArray.ext;simp[tx]
theorem DB{n:Int}(h:0≤n)(h2:n<256):IntKind.u8.wrap n=n:=by
 simp[IntKind.wrap,IntKind.bits,IntKind.signed];omega
theorem s5:∀ {l:List UInt8} {c:UInt8} {i:Nat},l[i]?=some c→c∉l.take i→Lib.index l [c]=(i:Int)
 | [],c,i,h,_=>by simp at h
 | b::l,c,0,h,_=>by
   have e:b=c:=by simpa using h
   unfold Lib.index;rw[if_pos (by simp[List.isPrefixOf,e])];rfl
 | b::l,c,i+1,h,hn=>by
   have h1:l[i]?=some c:=by simpa using h
   have hb:¬ c=b:=fun e=>hn (by simp[e]);have h2:c∉l.take i:=fun e=>hn (by simp[e]);unfold Lib.index;rw[if_neg (by simp[List.isPrefixOf];exact hb),s5 h1 h2,if_neg (by simp)];omega
theorem ui:∀ {l:List UInt8} {c:UInt8},c∉l→Lib.index l [c]= -1
 | [],c,_=>rfl
 | b::l,c,h=>by
   have hb:¬ c=b:=fun e=>h (by simp[e]);have h2:c∉l:=fun e=>h (by simp[e]);unfold Lib.index;rw[if_neg (by simp[List.isPrefixOf];exact hb),ui h2];rfl
theorem sv(l:List UInt8)(c:UInt8)(hl:l.length≤4000000000):Fn Tryz.prog 129 [.d (.v (.string (tx l))),.d (.v (.int .u8 (c.toNat:Int)))] [.d (.v (.int .i64 (Lib.index l [c])))]:=by
 have rY:∀ i:Nat,l[i]?=some c→c∉l.take i→Lib.index l [c]=(i:Int):=fun i=>s5;have rN:c∉l→Lib.index l [c]= -1:=ui;generalize Lib.index l [c]=R at rY rN ⊢;refine Fn.of Tryz.func129 rfl (by kernel_rfl) Tryz.ntmps129 Tryz.results129 rfl fun w0 S0=>?_;refine wk ?_;refine AC.loop (X:=Nat) (fun i=>⟨[(0,.d (.v (.string (tx l)))),(1,.d (.v (.int .u8 (c.toNat:Int)))),(5,.d (.v (.int .i64 (i:Int))))],[]⟩) (fun i=>i≤l.length∧c∉l.take i) (fun i=>l.length-i) 0 ⟨Nat.zero_le _,by simp⟩ ⟨rfl,rfl,rfl,trivial⟩ trivial ?_;intro i ⟨hi,hn⟩;dsimp only;refine wk ?_;((try (first | intro K ms hms hK | intro K hK));(first | apply Ch.go | apply Ch.ah);exact rfl;exact rfl;exact Loc.bF rfl rfl (by kernel_rfl));rw[aB];refine s1 (fun h3=>?_) (fun h3=>?_)
 ·have hi':i<l.length:=by omega
  have hget:l[i]?=some l[i]:=List.getElem?_eq_getElem hi';have htk:l.take (i+1)=l.take i++[l[i]]:=List.take_succ_eq_append_getElem hi';generalize l[i]=x at hget htk;have hx:=UInt8.toNat_lt x;refine wk ?_;((try (first | intro K ms hms hK | intro K hK));(first | apply Ch.go | apply Ch.ah);exact rfl;exact rfl;exact Loc.bV (c:=x) i rfl rfl rfl rfl hget (by kernel_rfl));by_cases hxc:x.toNat=c.toNat
  ·have eR:=rY i (by rw[hget,UInt8.toNat_inj.1 hxc]) hn;refine wk ?_;rw[eR];exact⟨.d rfl (.inl rfl),trivial⟩
  ·refine wk ?_;exact⟨i+1,⟨hi',by rw[htk];simp;exact⟨hn,fun e=>hxc (by rw[e])⟩⟩,by omega,⟨rfl,rfl,rfl,trivial⟩,trivial⟩
 ·rw[List.take_of_length_le (by omega)]at hn;have eR:=rN hn;refine wk ?_;rw[eR];exact⟨.d rfl (.inl rfl),trivial⟩
theorem ez{n k:Nat}(h:n<10^k):(bits n).length≤4*k:=by
 refine bT (Nat.lt_of_lt_of_le h ?_);rw[Nat.pow_mul];exact Nat.pow_le_pow_left (by decide) _
def CU:Option Nat→List DV
 | some n=>[.d (bp (bits n)),.d (.v (.bool true))]
 | none=>[.d (.l []),.d (.v (.bool false))]
theorem E9:bp (bits 0)= .l []:=by rw[kp];rfl
theorem jH(l:List UInt8)(hl:l.length≤1000000):Fn Tryz.prog 130 [.d (.v (.string (tx l)))] (CU (aW l)):=by
 refine Fn.of Tryz.func130 rfl (by kernel_rfl) Tryz.ntmps130 Tryz.results130 rfl fun w0 S0=>?_;by_cases h0:l=[]
 ·subst h0;have e0:([]:List UInt8).length=0:=rfl;rw[show aW []=none by decide];refine wk ?_;((try (first | intro K ms hms hK | intro K hK));(first | apply Ch.go | apply Ch.ah);exact rfl;exact rfl;exact Loc.bF rfl rfl (by kernel_rfl));rw[aB];refine wk ?_;exact⟨.d rfl (.inr rfl),.d rfl (.inl rfl),trivial⟩
 have hl0:l.length≠0:=fun e=>h0 (List.length_eq_zero_iff.1 e);have eN:(¬∀ c∈l,bD c)→aW l=none:=fun h=>by unfold aW;exact if_neg (fun h2=>h h2.2)
 have eY:(∀c∈l,bD c)→aW l=some (aR 0 l):=fun h=>by unfold aW;exact if_pos ⟨h0,h⟩
 generalize aW l=R at eN eY ⊢;refine wk ?_;((try (first | intro K ms hms hK | intro K hK));(first | apply Ch.go | apply Ch.ah);exact rfl;exact rfl;exact Loc.bF rfl rfl (by kernel_rfl));rw[aB];refine wk ?_;refine AC.br 4 rfl rfl ?_;refine AC.loop (X:=Nat) (fun i=>⟨[(0,.d (.v (.string (tx l)))),(4,.d (bp (bits (aR 0 (l.take i))))),(5,.d (.v (.int .i64 (i:Int))))],[]⟩) (fun i=>i≤l.length∧∀ c∈l.take i,bD c) (fun i=>l.length-i) 0 ⟨Nat.zero_le _,by simp⟩ ⟨rfl,by dsimp only;rw[show aR 0 (l.take 0)=0 from rfl,E9];rfl,rfl,trivial⟩ trivial ?_;intro i ⟨hi,hd⟩;have hv:=mg (l.take i) hd 0;have htl:(l.take i).length=i:=by simp;omega
 rw[htl,Nat.zero_add,Nat.one_mul]at hv;dsimp only;refine wk ?_;((try (first | intro K ms hms hK | intro K hK));(first | apply Ch.go | apply Ch.ah);exact rfl;exact rfl;exact Loc.bF rfl rfl (by kernel_rfl));rw[aB];refine s1 (fun h3=>?_) (fun h3=>?_)
 ·have hi':i<l.length:=by omega
  have hget:l[i]?=some l[i]:=List.getElem?_eq_getElem hi';have hval:=lz hget 0;have hds:bD l[i]→∀ x∈l.take (i+1),bD x:=fun h x hx=>by
   rw[List.take_succ_eq_append_getElem hi']at hx;rcases List.mem_append.1 hx with h2 | h2
   ·exact hd x h2
   ·rw[List.mem_singleton.1 h2];exact h
  have hdn:¬ bD l[i]→¬ ∀c∈l,bD c:=fun h h2=>h (h2 _ (List.getElem_mem hi'));generalize l[i]=c at hget hval hds hdn;have hc:=UInt8.toNat_lt c;refine wk ?_;((try (first | intro K ms hms hK | intro K hK));(first | apply Ch.go | apply Ch.ah);exact rfl;exact rfl;exact Loc.bV (c:=c) i rfl rfl rfl rfl hget (by kernel_rfl));by_cases hlo:c.toNat<48
  ·have eR:=eN (hdn (by unfold bD;omega));refine wk ?_;rw[eR];exact⟨.d rfl (.inr rfl),.d rfl (.inl rfl),trivial⟩
  refine wk ?_;((try (first | intro K ms hms hK | intro K hK));(first | apply Ch.go | apply Ch.ah);exact rfl;exact rfl;exact Loc.bV (c:=c) i rfl rfl rfl rfl hget (by kernel_rfl));by_cases hhi:57<c.toNat
  ·have eR:=eN (hdn (by unfold bD;omega));refine wk ?_;rw[eR];exact⟨.d rfl (.inr rfl),.d rfl (.inl rfl),trivial⟩
  have hdc:bD c:=by unfold bD;omega
  have b1:=ez (n:=aR 0 (l.take i)) (k:=i) (by omega);have b2:(bits 10).length≤100:=bT (by decide);have hm10:aR 0 (l.take i)*10<10^(i+1):=by rw[Nat.pow_succ];omega
  have b3:=ez hm10;have b4:(bits (c.toNat-48)).length≤100:=bT (Nat.lt_of_lt_of_le (show c.toNat-48<10 by omega) (by decide));have hcv:((c.toNat:Int)-48)=((c.toNat-48:Nat):Int):=by omega
  refine wk ?_;refine c1 (kn 10 (by decide)) ?_;refine wk ?_;refine c1 (jD (aR 0 (l.take i)) 10 (by omega)) ?_;refine wk ?_;((try (first | intro K ms hms hK | intro K hK));(first | apply Ch.go | apply Ch.ah);exact rfl;exact rfl;exact Loc.bV (c:=c) i rfl rfl rfl rfl hget (by kernel_rfl));((try (first | intro K ms hms hK | intro K hK));(first | apply Ch.go | apply Ch.ah);exact rfl;exact rfl;exact Loc.sub rfl rfl rfl (DB (by omega) (by omega)));((try (first | intro K ms hms hK | intro K hK));(first | apply Ch.go | apply Ch.ah);exact rfl;exact rfl;exact Loc.conv rfl rfl (IntWalk.u64_in _ (by omega)));rw[hcv];refine c1 (kn (c.toNat-48) (by omega)) ?_;refine wk ?_;refine c1 (uV (aR 0 (l.take i)*10) (c.toNat-48) (by omega) (by omega)) ?_;refine wk ?_;exact⟨i+1,⟨hi',hds hdc⟩,by omega,⟨rfl,by dsimp only;rw[hval];rfl,rfl,trivial⟩,trivial⟩
 ·rw[List.take_of_length_le (by omega)]at hd ⊢;have eR:=eY hd;refine wk ?_;rw[eR];exact⟨.d rfl (.inl rfl),.d rfl (.inl rfl),trivial⟩
theorem A9(n:Nat)(hn:n≤1000000):Fn Tryz.prog 131 [.d (.v (.int .i64 (n:Int)))] [.d (bp (bits (10^n)))]:=by
 refine Fn.of Tryz.func131 rfl (by kernel_rfl) Tryz.ntmps131 Tryz.results131 rfl fun w0 S0=>?_;refine wk ?_;refine c1 (kn 1 (by decide)) ?_;refine wk ?_;refine AC.loop (X:=Nat) (fun i=>⟨[(0,.d (.v (.int .i64 (n:Int)))),(3,.d (bp (bits (10^i)))),(4,.d (.v (.int .i64 (i:Int))))],[]⟩) (fun i=>i≤n) (fun i=>n-i) 0 (Nat.zero_le _) ⟨rfl,rfl,rfl,trivial⟩ trivial ?_;intro i hi;dsimp only;refine wk ?_;refine s1 (fun h3=>?_) (fun h3=>?_)
 ·have b1:=ez (n:=10^i) (k:=i+1) (Nat.pow_lt_pow_right (by decide) (by omega));have b2:(bits 10).length≤100:=bT (by decide);refine wk ?_;refine c1 (kn 10 (by decide)) ?_;refine wk ?_;refine c1 (jD (10^i) 10 (by omega)) ?_;refine wk ?_;exact⟨i+1,by omega,by omega,⟨rfl,rfl,rfl,trivial⟩,trivial⟩
 ·have e:i=n:=by omega
  subst e;refine wk ?_;exact⟨.d rfl (.inl rfl),trivial⟩
section
variable {P:Program}{C:Cx}{o:Oper}{σ:AS}
theorem Loc.ks{T:TypeId}{x z:Operand}{l:List UInt8}{m:Int}{kd':IntKind}(j:Nat)(ho:o.op= .slice T x none (some z) none)(hx:ev σ x= .d (.v (.string (tx l))))(hz:ev σ z= .d (.v (.int kd' m)))(hm:m=(j:Int))(hj:j≤l.length)(hT:P.underlying T=some .string):Loc P C o σ (.d (.v (.string (tx (l.take j))))):=
 Loc.two (by rw[ho];simp[Op.operands]) hx (by rw[ho];simp[Op.operands]) hz fun S w β O a h1 h3=>by
  subst hm;refine⟨_,?_,.mk rfl⟩;unfold execOp;rw[ho];have hr:(Instr.slice T (.string (tx l)) none (some (.int kd' (j:Int))) none).run P w= .ok (.string ((tx l).extract 0 j)) w:=by
   have hs:(j:Int)≤(tx l).size:=by rw[aB];omega
   simp[Instr.slice,run_underlying hT,Instr.sliceBounds,run_sliceBound,hs]
  rw[BZ,List.drop_zero,Nat.sub_zero]at hr;simp[RA.val h1,RA.val h3,run_sliceAt_string _ _ _ _ _ _ hT,hr]
end
theorem jX:∀ (l:List UInt8) (c:UInt8),Lib.index l [c]= -1∨∃ i:Nat,Lib.index l [c]=(i:Int)∧i<l.length
 | [],c=> .inl rfl
 | b::l,c=>by
   by_cases hp:([c]:List UInt8).isPrefixOf (b::l)=true
   ·refine .inr ⟨0,?_,by simp⟩;unfold Lib.index;rw[if_pos hp];rfl
   rcases jX l c with h | ⟨i,h,hi⟩
   ·refine .inl ?_;unfold Lib.index;rw[if_neg hp,h];rfl
   ·refine .inr ⟨i+1,?_,by simp;omega⟩;unfold Lib.index;rw[if_neg hp,h,if_neg (by simp)];omega
theorem vQ{l:List UInt8}{c:UInt8}{i:Nat}(h:Lib.index l [c]=(i:Int)):Lib.cut l [c]=(l.take i,l.drop (i+1),true):=by
 unfold Lib.cut;rw[h,if_pos (by omega)];simp
theorem uW{l:List UInt8}{c:UInt8}(h:Lib.index l [c]= -1):Lib.cut l [c]=(l,[],false):=by
 unfold Lib.cut;rw[h,if_neg (by omega)]
theorem yx{neg:Bool}{m:List UInt8}{i:Nat}(h:Lib.index m [47]=(i:Int)):cE neg m=match aW (m.drop (i+1))with
  | none=>none
  | some d=>j8 neg (m.take i) d:=by
 unfold cE;rw[vQ h];exact if_pos rfl
theorem uy{neg:Bool}{m:List UInt8}(h:Lib.index m [47]= -1)(h2:Lib.index m [46]= -1):cE neg m=j8 neg m 1:=by
 unfold cE;rw[uW h,uW h2];exact(if_neg Bool.false_ne_true).trans (if_neg Bool.false_ne_true)
theorem zX(a:Nat)(l:List UInt8):aR a l=a*10^l.length+aR 0 l:=by
 rw[nS l a,nS l 0,Nat.zero_mul,Nat.zero_add]
theorem uu{neg:Bool}{m:List UInt8}{i:Nat}(h:Lib.index m [47]= -1)(h2:Lib.index m [46]=(i:Int)):cE neg m=match aW (m.take i),aW (m.drop (i+1))with
  | some x,some y=>some (mkRat (bH neg (x*10^(m.drop (i+1)).length+y)) (10^(m.drop (i+1)).length))
  | _,_=>none:=by
 unfold cE;rw[uW h,vQ h2];refine(if_neg Bool.false_ne_true).trans ((if_pos rfl).trans ?_);dsimp only;generalize m.take i=a;generalize m.drop (i+1)=b;by_cases ha:a=[]
 ·subst ha;rw[if_pos (.inl rfl),show aW []=none by decide]
 by_cases hb:b=[]
 ·subst hb;rw[if_pos (.inr rfl),show aW []=none by decide];cases aW a<;>rfl
 rw[if_neg (by simp[ha,hb])];unfold j8;by_cases da:∀ c∈a,bD c
 ·by_cases db:∀ c∈b,bD c
  ·have e1:aW a=some (aR 0 a):=if_pos ⟨ha,da⟩;have e2:aW b=some (aR 0 b):=if_pos ⟨hb,db⟩;have e3:aW (a++b)=some (aR 0 (a++b)):=if_pos ⟨by simp[ha],fun c hc=>(List.mem_append.1 hc).elim (da c) (db c)⟩;have e4:aR 0 (a++b)=aR 0 a*10^b.length+aR 0 b:=by rw[pw,zX]
   rw[e1,e2,e3,e4];exact if_neg (Nat.ne_of_gt (Nat.pow_pos (by decide)))
  ·have e2:aW b=none:=if_neg fun h=>db h.2;have e3:aW (a++b)=none:=if_neg fun h=>db fun c hc=>h.2 c (List.mem_append.2 (.inr hc));rw[e2,e3];cases aW a<;>rfl
 ·have e1:aW a=none:=if_neg fun h=>da h.2;have e3:aW (a++b)=none:=if_neg fun h=>da fun c hc=>h.2 c (List.mem_append.2 (.inl hc));rw[e1,e3]
theorem fj{l:List UInt8}{n:Nat}(h:aW l=some n):n<10^l.length:=by
 unfold aW at h;split at h
 ·rename_i h2;have:=mg l h2.2 0;cases h;omega
 ·cases h
def zF:Option Rat→List DV
 | some q=>[.g (aS q),.d (.v (.bool true))]
 | none=>[.g (aS 0),.d (.v (.bool false))]
theorem vi(c:UInt8)(t:List UInt8):aX (c::t)=if c=45 then cE true t else cE false (c::t):=by
 unfold aX Lib.trimPrefix Lib.hasPrefix;by_cases h:c=45
 ·rw[if_pos h,h];simp[List.isPrefixOf]
 ·rw[if_neg h,if_neg (by simp[List.isPrefixOf];exact fun e=>h e.symm)];simp
theorem zc(l:List UInt8)(hl:l.length≤20000):Fn Tryz.prog 71 [.d (.v (.string (tx l)))] (zF (aX l)):=by
 have q0:=pB 0 (by decide) (by decide);rw[show ((0:Int):Rat)=0 from rfl]at q0;refine Fn.of Tryz.func71 rfl (by kernel_rfl) Tryz.ntmps71 Tryz.results71 rfl fun w0 S0=>?_;cases l with
 | nil=>
   have e0:([]:List UInt8).length=0:=rfl;have hA:Fn Tryz.prog 129 [.d (.v (.string (tx []))),.d (.v (.int .u8 47))] [.d (.v (.int .i64 (-1)))]:=sv [] 47 (by decide);have hB:Fn Tryz.prog 129 [.d (.v (.string (tx []))),.d (.v (.int .u8 46))] [.d (.v (.int .i64 (-1)))]:=sv [] 46 (by decide);have hp:Fn Tryz.prog 130 [.d (.v (.string (tx [])))] (CU none):=jH [] (by decide);rw[show aX []=none by decide];refine wk ?_;((try (first | intro K ms hms hK | intro K hK));(first | apply Ch.go | apply Ch.ah);exact rfl;exact rfl;exact Loc.bF rfl rfl (by kernel_rfl));rw[aB];refine wk ?_;refine c1 hA ?_;refine wk ?_;refine c1 hB ?_;refine wk ?_;refine c1 hp ?_;refine wk ?_;refine c1 q0 ?_;refine wk ?_;exact⟨.cn rfl rfl inferInstance rfl ⟨.inl rfl,.inl rfl,.inl rfl,trivial⟩,.d rfl (.inl rfl),trivial⟩
 | cons c t=>
   have hc:=UInt8.toNat_lt c;have e1:(c::t).length=t.length+1:=List.length_cons ..;have hget:(c::t)[0]?=some c:=rfl;obtain⟨nb,hnb⟩:∃ nb,nb=decide ((c.toNat:Int)=45):=⟨_,rfl⟩
   refine wk ?_;((try (first | intro K ms hms hK | intro K hK));(first | apply Ch.go | apply Ch.ah);exact rfl;exact rfl;exact Loc.bF rfl rfl (by kernel_rfl));rw[aB];refine wk ?_;((try (first | intro K ms hms hK | intro K hK));(first | apply Ch.go | apply Ch.ah);exact rfl;exact rfl;exact Loc.bV (c:=c) 0 rfl rfl rfl rfl hget (by kernel_rfl));((try (first | intro K ms hms hK | intro K hK));(first | apply Ch.go | apply Ch.ah);exact rfl;exact rfl;exact Loc.xt nb rfl rfl rfl hnb);refine wk ?_;refine AC.join (X:=Bool×List UInt8) (fun x=>⟨[(0,.d (.v (.string (tx x.2)))),(2,.p 2 0),(4,.d (.v (.bool x.1)))],[(2,AO.box 136 (gl [.bool false,.slice none 0 0,.slice none 0 0]))]⟩) (fun x=>x.2.length≤20000∧aX (c::t)=cE x.1 x.2) ?_ fun⟨neg,m⟩ ⟨hm,hr⟩=>?_
   ·rw[vi];cases nb with
    | true=>
      have h45:c.toNat=45:=by have:=(decide_eq_true_iff.1 hnb.symm);omega
      rw[if_pos (UInt8.toNat_inj.1 h45)];refine wk ?_;((try (first | intro K ms hms hK | intro K hK));(first | apply Ch.go | apply Ch.ah);exact rfl;exact rfl;exact Loc.eU 1 rfl rfl rfl rfl (by omega) (by kernel_rfl));refine wk ?_;exact⟨(true,t),⟨by dsimp only;omega,rfl⟩,⟨rfl,rfl,rfl,trivial⟩,⟨rfl,trivial⟩⟩
    | false=>
      have h45:¬ c=45:=fun e=>by rw[e]at hnb;revert hnb;decide
      rw[if_neg h45];refine wk ?_;exact⟨(false,c::t),⟨hl,rfl⟩,⟨rfl,rfl,rfl,trivial⟩,⟨rfl,trivial⟩⟩
   dsimp only at hm ⊢;have hA:Fn Tryz.prog 129 [.d (.v (.string (tx m))),.d (.v (.int .u8 47))] [.d (.v (.int .i64 (Lib.index m [47])))]:=sv m 47 (by omega);have hB:Fn Tryz.prog 129 [.d (.v (.string (tx m))),.d (.v (.int .u8 46))] [.d (.v (.int .i64 (Lib.index m [46])))]:=sv m 46 (by omega);rw[hr];rcases jX m 47 with hI | ⟨i,hI,hi⟩
   ·rw[hI]at hA;rcases jX m 46 with hJ | ⟨i,hJ,hi⟩
    ·rw[hJ]at hB;have hp:=jH m (by omega);have hlt:=fun n=>fj (l:=m) (n:=n);have hR:=uy (neg:=neg) hI hJ;unfold j8 at hR;cases hx:aW m with
     | none=>
       rw[hx]at hp hR;rw[hR];refine wk ?_;refine c1 hA ?_;refine wk ?_;refine c1 hB ?_;refine wk ?_;refine c1 hp ?_;refine wk ?_;refine c1 q0 ?_;refine wk ?_;exact⟨.cn rfl rfl inferInstance rfl ⟨.inl rfl,.inl rfl,.inl rfl,trivial⟩,.d rfl (.inl rfl),trivial⟩
     | some x=>
       rw[hx]at hp hR;rw[show cE neg m=some (mkRat (bH neg x) 1)from hR];have b1:=ez (hlt x hx);have b2:(bits 1).length≤100:=bT (by decide);refine wk ?_;refine c1 hA ?_;refine wk ?_;refine c1 hB ?_;refine wk ?_;refine c1 hp ?_;refine wk ?_;refine c1 (kn 1 (by decide)) ?_;refine wk ?_;refine c1 (oX neg x 1 (by omega) (by omega) (by omega)) ?_;refine wk ?_;exact⟨.cn rfl rfl inferInstance rfl ⟨.inl rfl,.inl rfl,.inl rfl,trivial⟩,.d rfl (.inl rfl),trivial⟩
    ·rw[hJ]at hB;have hR:=uu (neg:=neg) hI hJ;have hpa:=jH (m.take i) (by simp;omega);have hpb:=jH (m.drop (i+1)) (by simp;omega);have hla:=fun n=>fj (l:=m.take i) (n:=n);have hlb:=fun n=>fj (l:=m.drop (i+1)) (n:=n);have hdl:(m.drop (i+1)).length=m.length-i-1:=by rw[List.length_drop];omega
     have htl:(m.take i).length≤i:=by simp;omega
     have hte:=A9 (m.length-i-1) (by omega);cases hx:aW (m.take i)with
     | none=>
       cases hy:aW (m.drop (i+1))with
       | none=>
         rw[hx]at hpa hR;rw[hy]at hpb hR;rw[show cE neg m=none from hR];refine wk ?_;refine c1 hA ?_;refine wk ?_;refine c1 hB ?_;refine wk ?_;((try (first | intro K ms hms hK | intro K hK));(first | apply Ch.go | apply Ch.ah);exact rfl;exact rfl;exact Loc.ks i rfl rfl rfl rfl (by omega) (by kernel_rfl));refine c1 hpa ?_;refine wk ?_;((try (first | intro K ms hms hK | intro K hK));(first | apply Ch.go | apply Ch.ah);exact rfl;exact rfl;exact Loc.eU (i+1) rfl rfl rfl (by omega) (by omega) (by kernel_rfl));refine c1 hpb ?_;refine wk ?_;refine c1 q0 ?_;refine wk ?_;exact⟨.cn rfl rfl inferInstance rfl ⟨.inl rfl,.inl rfl,.inl rfl,trivial⟩,.d rfl (.inl rfl),trivial⟩
       | some y=>
         rw[hx]at hpa hR;rw[hy]at hpb hR;rw[show cE neg m=none from hR];refine wk ?_;refine c1 hA ?_;refine wk ?_;refine c1 hB ?_;refine wk ?_;((try (first | intro K ms hms hK | intro K hK));(first | apply Ch.go | apply Ch.ah);exact rfl;exact rfl;exact Loc.ks i rfl rfl rfl rfl (by omega) (by kernel_rfl));refine c1 hpa ?_;refine wk ?_;((try (first | intro K ms hms hK | intro K hK));(first | apply Ch.go | apply Ch.ah);exact rfl;exact rfl;exact Loc.eU (i+1) rfl rfl rfl (by omega) (by omega) (by kernel_rfl));refine c1 hpb ?_;refine wk ?_;refine c1 q0 ?_;refine wk ?_;exact⟨.cn rfl rfl inferInstance rfl ⟨.inl rfl,.inl rfl,.inl rfl,trivial⟩,.d rfl (.inl rfl),trivial⟩
     | some x=>
       have b1:=ez (hla x hx);cases hy:aW (m.drop (i+1))with
       | none=>
         rw[hx]at hpa hR;rw[hy]at hpb hR;rw[show cE neg m=none from hR];refine wk ?_;refine c1 hA ?_;refine wk ?_;refine c1 hB ?_;refine wk ?_;((try (first | intro K ms hms hK | intro K hK));(first | apply Ch.go | apply Ch.ah);exact rfl;exact rfl;exact Loc.ks i rfl rfl rfl rfl (by omega) (by kernel_rfl));refine c1 hpa ?_;refine wk ?_;((try (first | intro K ms hms hK | intro K hK));(first | apply Ch.go | apply Ch.ah);exact rfl;exact rfl;exact Loc.eU (i+1) rfl rfl rfl (by omega) (by omega) (by kernel_rfl));refine c1 hpb ?_;refine wk ?_;refine c1 q0 ?_;refine wk ?_;exact⟨.cn rfl rfl inferInstance rfl ⟨.inl rfl,.inl rfl,.inl rfl,trivial⟩,.d rfl (.inl rfl),trivial⟩
       | some y=>
         rw[hx]at hpa hR;rw[hy,hdl]at hR;rw[hy]at hpb;have b2:=ez (hlb y hy);have h1:=hlb y hy;rw[hdl]at b2 h1;obtain⟨k,hk⟩:∃ k,m.length-i-1=k:=⟨_,rfl⟩
         rw[hk]at hte b2 h1 hdl hR;rw[show cE neg m=some (mkRat (bH neg (x*10^k+y)) (10^k))from hR];have b3:=ez (n:=10^k) (k:=k+1) (Nat.pow_lt_pow_right (by decide) (by omega));have b4:x*10^k<10^((m.take i).length+k):=by rw[Nat.pow_add];exact Nat.mul_lt_mul_of_pos_right (hla x hx) (Nat.pow_pos (by decide))
         have b5:=ez b4;have b6:x*10^k+y<10^((m.take i).length+k+1):=by
          have h2:10^k≤10^((m.take i).length+k):=Nat.pow_le_pow_right (by decide) (by omega);rw[Nat.pow_succ 10 ((m.take i).length+k)];omega
         have b7:=ez b6;have hki:(k:Int)=(m.length:Int)-i-1:=by omega
         refine wk ?_;refine c1 hA ?_;refine wk ?_;refine c1 hB ?_;refine wk ?_;((try (first | intro K ms hms hK | intro K hK));(first | apply Ch.go | apply Ch.ah);exact rfl;exact rfl;exact Loc.ks i rfl rfl rfl rfl (by omega) (by kernel_rfl));refine c1 hpa ?_;refine wk ?_;((try (first | intro K ms hms hK | intro K hK));(first | apply Ch.go | apply Ch.ah);exact rfl;exact rfl;exact Loc.eU (i+1) rfl rfl rfl (by omega) (by omega) (by kernel_rfl));refine c1 hpb ?_;refine wk ?_;((try (first | intro K ms hms hK | intro K hK));(first | apply Ch.go | apply Ch.ah);exact rfl;exact rfl;exact Loc.bF rfl rfl (by kernel_rfl));rw[aB];refine wk ?_;rw[←hki];refine c1 hte ?_;refine wk ?_;refine c1 (jD x (10^k) (by omega)) ?_;refine wk ?_;refine c1 (uV (x*10^k) y (by omega) (by omega)) ?_;refine wk ?_;refine c1 (oX neg (x*10^k+y) (10^k) (by omega) (by omega) (Nat.pow_pos (by decide))) ?_;refine wk ?_;exact⟨.cn rfl rfl inferInstance rfl ⟨.inl rfl,.inl rfl,.inl rfl,trivial⟩,.d rfl (.inl rfl),trivial⟩
   ·rw[hI]at hA;have hR:=yx (neg:=neg) hI;have hpa:=jH (m.take i) (by simp;omega);have hpb:=jH (m.drop (i+1)) (by simp;omega);have hla:=fun n=>fj (l:=m.take i) (n:=n);have hlb:=fun n=>fj (l:=m.drop (i+1)) (n:=n);have hdl:(m.drop (i+1)).length≤m.length:=by simp
    have htl:(m.take i).length≤m.length:=by simp;omega
    unfold j8 at hR;generalize Lib.index m [46]=J at hB;cases hy:aW (m.drop (i+1))with
    | none=>
      rw[hy]at hpb hR;cases hx:aW (m.take i)with
      | none=>
        rw[hx]at hpa;rw[show cE neg m=none from hR];refine wk ?_;refine c1 hA ?_;refine wk ?_;refine c1 hB ?_;refine wk ?_;((try (first | intro K ms hms hK | intro K hK));(first | apply Ch.go | apply Ch.ah);exact rfl;exact rfl;exact Loc.ks i rfl rfl rfl rfl (by omega) (by kernel_rfl));refine c1 hpa ?_;refine wk ?_;((try (first | intro K ms hms hK | intro K hK));(first | apply Ch.go | apply Ch.ah);exact rfl;exact rfl;exact Loc.eU (i+1) rfl rfl rfl (by omega) (by omega) (by kernel_rfl));refine c1 hpb ?_;refine wk ?_;refine c1 q0 ?_;refine wk ?_;exact⟨.cn rfl rfl inferInstance rfl ⟨.inl rfl,.inl rfl,.inl rfl,trivial⟩,.d rfl (.inl rfl),trivial⟩
      | some x=>
        rw[hx]at hpa;rw[show cE neg m=none from hR];refine wk ?_;refine c1 hA ?_;refine wk ?_;refine c1 hB ?_;refine wk ?_;((try (first | intro K ms hms hK | intro K hK));(first | apply Ch.go | apply Ch.ah);exact rfl;exact rfl;exact Loc.ks i rfl rfl rfl rfl (by omega) (by kernel_rfl));refine c1 hpa ?_;refine wk ?_;((try (first | intro K ms hms hK | intro K hK));(first | apply Ch.go | apply Ch.ah);exact rfl;exact rfl;exact Loc.eU (i+1) rfl rfl rfl (by omega) (by omega) (by kernel_rfl));refine c1 hpb ?_;refine wk ?_;refine c1 q0 ?_;refine wk ?_;exact⟨.cn rfl rfl inferInstance rfl ⟨.inl rfl,.inl rfl,.inl rfl,trivial⟩,.d rfl (.inl rfl),trivial⟩
    | some y=>
      rw[hy]at hpb hR;have b2:=ez (hlb y hy);dsimp only at hR;cases hx:aW (m.take i)with
      | none=>
        rw[hx]at hpa hR;rw[show cE neg m=none from hR];refine wk ?_;refine c1 hA ?_;refine wk ?_;refine c1 hB ?_;refine wk ?_;((try (first | intro K ms hms hK | intro K hK));(first | apply Ch.go | apply Ch.ah);exact rfl;exact rfl;exact Loc.ks i rfl rfl rfl rfl (by omega) (by kernel_rfl));refine c1 hpa ?_;refine wk ?_;((try (first | intro K ms hms hK | intro K hK));(first | apply Ch.go | apply Ch.ah);exact rfl;exact rfl;exact Loc.eU (i+1) rfl rfl rfl (by omega) (by omega) (by kernel_rfl));refine c1 hpb ?_;refine wk ?_;refine c1 q0 ?_;refine wk ?_;exact⟨.cn rfl rfl inferInstance rfl ⟨.inl rfl,.inl rfl,.inl rfl,trivial⟩,.d rfl (.inl rfl),trivial⟩
      | some x=>
        rw[hx]at hpa hR;have b1:=ez (hla x hx);dsimp only at hR;have hyl:((bits y).map fun b=>[D.v (fh b)]).length=(bits y).length:=List.length_map ..;by_cases hy0:y=0
        ·rw[if_pos hy0]at hR;have hb0:(bits y).length=0:=by rw[hy0,kp];rfl
         rw[show cE neg m=none from hR];refine wk ?_;refine c1 hA ?_;refine wk ?_;refine c1 hB ?_;refine wk ?_;((try (first | intro K ms hms hK | intro K hK));(first | apply Ch.go | apply Ch.ah);exact rfl;exact rfl;exact Loc.ks i rfl rfl rfl rfl (by omega) (by kernel_rfl));refine c1 hpa ?_;refine wk ?_;((try (first | intro K ms hms hK | intro K hK));(first | apply Ch.go | apply Ch.ah);exact rfl;exact rfl;exact Loc.eU (i+1) rfl rfl rfl (by omega) (by omega) (by kernel_rfl));refine c1 hpb ?_;refine wk ?_;refine c1 q0 ?_;refine wk ?_;exact⟨.cn rfl rfl inferInstance rfl ⟨.inl rfl,.inl rfl,.inl rfl,trivial⟩,.d rfl (.inl rfl),trivial⟩
        ·rw[if_neg hy0]at hR;have hb0:(bits y).length≠0:=fun e=>hy0 (bits_eq_nil.1 (List.length_eq_zero_iff.1 e));rw[hR];refine wk ?_;refine c1 hA ?_;refine wk ?_;refine c1 hB ?_;refine wk ?_;((try (first | intro K ms hms hK | intro K hK));(first | apply Ch.go | apply Ch.ah);exact rfl;exact rfl;exact Loc.ks i rfl rfl rfl rfl (by omega) (by kernel_rfl));refine c1 hpa ?_;refine wk ?_;((try (first | intro K ms hms hK | intro K hK));(first | apply Ch.go | apply Ch.ah);exact rfl;exact rfl;exact Loc.eU (i+1) rfl rfl rfl (by omega) (by omega) (by kernel_rfl));refine c1 hpb ?_;refine wk ?_;refine c1 (oX neg x y (by omega) (by omega) (by omega)) ?_;refine wk ?_;exact⟨.cn rfl rfl inferInstance rfl ⟨.inl rfl,.inl rfl,.inl rfl,trivial⟩,.d rfl (.inl rfl),trivial⟩
theorem mf{x j k:Nat}(h:x<10^j)(hj:j≤k+1):x<2^(4*k+4):=by
 refine Nat.lt_of_lt_of_le h (Nat.le_trans (m:=16^j) (Nat.pow_le_pow_left (by decide) _) ?_);rw[show (16:Nat)=2^4 from rfl,←Nat.pow_mul];exact Nat.pow_le_pow_right (by decide) (by omega)
theorem yc{neg:Bool}{m:List UInt8}{q:Rat}{k:Nat}(hm:m.length≤k)(h:cE neg m=some q):Bd (4*k+4) q:=by
 have h1:1<2^(4*k+4):=mf (j:=1) (by decide) (by omega);rcases jX m 47 with hI | ⟨i,hI,hi⟩
 ·rcases jX m 46 with hJ | ⟨i,hJ,hi⟩
  ·rw[uy hI hJ]at h;unfold j8 at h;cases hx:aW m with
   | none=>rw[hx]at h;cases h
   | some x=>
     rw[hx]at h;replace h:some (mkRat (bH neg x) 1)=some q:=h;cases h;exact Bd.made (by decide) (mf (fj hx) (by omega)) h1
  ·rw[uu hI hJ]at h;have hl1:(m.take i).length≤k:=by simp;omega
   have hl2:(m.take i).length+(m.drop (i+1)).length≤k:=by simp;omega
   generalize m.take i=a at h hl1 hl2;generalize m.drop (i+1)=b at h hl2;cases hx:aW a with
   | none=>rw[hx]at h;cases h
   | some x=>
     cases hy:aW b with
     | none=>rw[hx,hy]at h;cases h
     | some y=>
       rw[hx,hy]at h;cases h;have g1:=fj hx;have g2:=fj hy;have g3:x*10^b.length+y<10^(a.length+b.length):=by
        have:(x+1)*10^b.length≤10^a.length*10^b.length:=Nat.mul_le_mul_right _ g1;rw[Nat.add_mul,Nat.one_mul,←Nat.pow_add]at this;omega
       exact Bd.made (Nat.ne_of_gt (Nat.pow_pos (by decide))) (mf g3 (by omega)) (mf (j:=b.length+1) (Nat.pow_lt_pow_right (by decide) (by omega)) (by omega))
 ·rw[yx hI]at h;have hl1:(m.take i).length≤k:=by simp;omega
  have hl2:(m.drop (i+1)).length≤k:=by simp;omega
  generalize m.take i=a at h hl1;generalize m.drop (i+1)=b at h hl2;cases hy:aW b with
  | none=>rw[hy]at h;cases h
  | some y=>
    rw[hy]at h;dsimp only at h;unfold j8 at h;cases hx:aW a with
    | none=>rw[hx]at h;cases h
    | some x=>
      rw[hx]at h;dsimp only at h;by_cases hy0:y=0
      ·rw[if_pos hy0]at h;cases h
      ·rw[if_neg hy0]at h;cases h;exact Bd.made hy0 (mf (fj hx) (by omega)) (mf (fj hy) (by omega))
theorem yp{l:List UInt8}{q:Rat}{k:Nat}(hl:l.length≤k)(h:aX l=some q):Bd (4*k+4) q:=
 yc (Nat.le_trans (rI l [45]) hl) h
