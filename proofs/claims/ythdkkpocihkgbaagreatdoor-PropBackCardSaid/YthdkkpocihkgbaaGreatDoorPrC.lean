import Derived.Test.YthdkkpocihkgbaaGreatDoorPrB
set_option maxRecDepth 100000
set_option maxHeartbeats 4000000
namespace Go.Proofs.YthdkkpocihkgbaaGreatDoor
open Go.RowKit
attribute [local irreducible] AC Do St
theorem FV.extP{P:Program}{w w':World}{u r:Value}{x:List DV}(h:FV P w u x r)(hx:Ext w w'):FV P w' u x r:=by
 obtain⟨g,cap,h1,h2,h3⟩:=h;exact⟨g,cap,h1,h2,fun S w2 vs h4=>h3 S w2 vs ⟨h4.os.trans hx.os,h4.tape.trans hx.tape,h4.output.trans hx.output,Nat.le_trans hx.size h4.size,fun k hk=>(h4.block k (Nat.lt_of_lt_of_le hk hx.size)).trans (hx.block k hk)⟩⟩
theorem Inv.extP{C:Cx}{σ:AS}{β:Nat→Value}{a:Act}{w:World}(hi:Inv C σ β a w)(hm:C.m=[]):Ext C.w0 w:=
 ⟨hi.os,hi.tape,hi.output,hi.size,fun k hk=>hi.fr k hk (by rintro ⟨_,h,_⟩;rw[hm]at h;cases h)⟩
def idxP{α:Type}(xs:List α)(p:α→Bool):Int:=match xs.findIdx? p with
 | some i=>i
 | none=> -1
theorem idxP_step{α:Type}{xs:List α}{p:α→Bool}{i:Nat}(hi':i<xs.length)(hb:∀ x∈xs.take i,p x=false):(p xs[i]=false→∀ x∈xs.take (i+1),p x=false)∧(p xs[i]=true→idxP xs p=(i:Int)):=by
 constructor
 ·intro h x hx;rw[List.take_succ_eq_append_getElem hi']at hx;rcases List.mem_append.1 hx with hx | hx
  ·exact hb x hx
  ·rw[List.mem_singleton.1 hx];exact h
 ·intro h;unfold idxP;have:xs.findIdx? p=some i:=by
   rw[List.findIdx?_eq_some_iff_getElem];refine⟨hi',h,fun j hj=>?_⟩;have:=hb xs[j] (List.mem_take_iff_getElem.2 ⟨j,by omega,rfl⟩);simp[this]
  rw[this]
theorem idxP_none{α:Type}{xs:List α}{p:α→Bool}(hb:∀ x∈xs,p x=false):idxP xs p= -1:=by
 unfold idxP;rw[List.findIdx?_eq_none_iff.2 hb]
theorem idxP_any{α:Type}(xs:List α)(p:α→Bool):decide (0≤idxP xs p)=xs.any p:=by
 unfold idxP;cases h:xs.findIdx? p with
 | none=>
   have:=List.findIdx?_eq_none_iff.1 h;rw[show xs.any p=false from List.any_eq_false.2 fun x hx=>by rw[this x hx];decide];rfl
 | some i=>
   rw[List.findIdx?_eq_some_iff_getElem]at h;obtain⟨h1,h2,_⟩:=h;rw[show xs.any p=true from List.any_eq_true.2 ⟨_,List.getElem_mem h1,h2⟩];simp
theorem idxFT(xs:List FT)(p:FT→Bool)(u:Value)(hlen:xs.length≤9223372036854775807):FnK Tryz.prog 231 (fun w=>∀ x∈xs,FV Tryz.prog w u [.g (enF x)] (.bool (p x))) [.d (.l (xs.map enF)),.d (.v u)] [.d (.v (.int .i64 (idxP xs p)))]:=by
 refine FnK.of Tryz.func231 rfl (by kernel_rfl) Tryz.ntmps231 Tryz.results231 rfl fun w0 S0 hK0=>?_;refine wk ?_;refine AC.loop (X:=Nat) (fun i=>⟨[(0,.d (.l (xs.map enF))),(1,.d (.v u)),(7,.d (.v (.int .i64 (xs.length:Int)))),(8,.d (.v (.int .i64 (i:Int))))],[]⟩) (fun i=>i≤xs.length∧∀ x∈xs.take i,p x=false) (fun i=>xs.length-i) 0 ⟨Nat.zero_le _,by simp⟩ ⟨rfl,rfl,rfl,rfl,trivial⟩ trivial ?_;intro i ⟨hi,hb⟩;refine wk ?_;refine s1 (fun h1=>?_) (fun h1=>?_)
 ·have hi':i<xs.length:=by omega
  have hget:xs[i]?=some xs[i]:=List.getElem?_eq_getElem hi';have hF:=hK0 xs[i] (List.getElem_mem hi');obtain⟨hno,hyes⟩:=idxP_step hi' hb;generalize xs[i]=x at hget hF hno hyes;refine wk ?_;((try (first | intro K ms hms hK | intro K hK));(first | apply Chain.go | apply Chain.goD);exact rfl;exact rfl;exact Loc.callF hF rfl rfl rfl ⟨.inl rfl,trivial⟩ rfl);cases hp:p x with
  | true=>
    refine wk ?_;rw[hyes hp];exact⟨.d rfl (.inl rfl),trivial⟩
  | false=>
    refine wk ?_;exact⟨i+1,⟨by omega,hno hp⟩,by omega,⟨rfl,rfl,rfl,rfl,trivial⟩,trivial⟩
 ·rw[List.take_of_length_le (by omega)]at hb;refine wk ?_;rw[idxP_none hb];exact⟨.d rfl (.inl rfl),trivial⟩
theorem hasFT(xs:List FT)(p:FT→Bool)(u:Value)(hlen:xs.length≤9223372036854775807):FnK Tryz.prog 188 (fun w=>∀ x∈xs,FV Tryz.prog w u [.g (enF x)] (.bool (p x))) [.d (.l (xs.map enF)),.d (.v u)] [.d (.v (.bool (xs.any p)))]:=by
 rw[←idxP_any];refine FnK.of Tryz.func188 rfl (by kernel_rfl) Tryz.ntmps188 Tryz.results188 rfl fun w0 S0 hK0=>?_;refine wk ?_;((try (first | intro K ms hms hK | intro K hK));(first | apply Chain.go | apply Chain.goD);exact rfl;exact rfl;exact Loc.callW (R:=[]) (idxFT xs p u hlen) rfl ⟨.inl rfl,.inl rfl,trivial⟩ (fun _ _ _ _ _ hi x hx=>(hK0 x hx).extP (hi.extP rfl)));refine s1 (fun h1=>?_) (fun h1=>?_)
 ·refine wk ?_;rw[decide_eq_true h1];exact⟨.d rfl (.inl rfl),trivial⟩
 ·refine wk ?_;rw[decide_eq_false h1];exact⟨.d rfl (.inl rfl),trivial⟩
mutual
def evT:FT→List Bool→Bool
 | .mk k a s,v=>if k=1 then v.getD a.toNat false else if k=2 then !evHd s v else if k=3 then evAll s v else if k=4 then evAny s v else decide (k=5)
def evHd:List FT→List Bool→Bool
 | [],_=>false
 | f::_,v=>evT f v
def evAll:List FT→List Bool→Bool
 | [],_=>true
 | f::r,v=>evT f v&&evAll r v
def evAny:List FT→List Bool→Bool
 | [],_=>false
 | f::r,v=>evT f v||evAny r v
end
theorem evAll_eq:∀ (s:List FT) (v:List Bool),evAll s v=!(s.any fun f=>!evT f v)
 | [],_=>rfl
 | f::r,v=>by
   rw[evAll,evAll_eq r v,List.any_cons,Bool.not_or,Bool.not_not]
theorem evAny_eq:∀ (s:List FT) (v:List Bool),evAny s v=s.any fun f=>evT f v
 | [],_=>rfl
 | f::r,v=>by rw[evAny,evAny_eq r v,List.any_cons]
def enBo(v:List Bool):D:= .l (v.map fun b=>[.v (.bool b)])
theorem shTs_mem{s:List FT}{n:Int}(h:shTs s n=true):∀ g∈s,shT g n=true:=by
 rw[shTs_all]at h;exact List.all_eq_true.1 h
theorem shT_1{a:Int}{s:List FT}{n:Int}(h:shT (.mk 1 a s) n=true):0≤a∧a<n:=by
 rw[shT,if_pos rfl]at h;simp at h;omega
theorem shT_2{a:Int}{s:List FT}{n:Int}(h:shT (.mk 2 a s) n=true):s.length=1∧∀ g∈s,shT g n=true:=by
 rw[shT,if_neg (by decide),if_neg (by decide),if_pos rfl]at h;rw[Bool.and_eq_true]at h;exact⟨of_decide_eq_true h.1,shTs_mem h.2⟩
theorem shT_3{k a:Int}{s:List FT}{n:Int}(hk:k=3∨k=4)(h:shT (.mk k a s) n=true):∀ g∈s,shT g n=true:=by
 rw[shT,if_neg (by omega),if_neg (by omega),if_neg (by omega),if_pos hk]at h;exact shTs_mem h
theorem bo_get{v:List Bool}{i:Nat}(h:i<v.length):v[i]?=some (v.getD i false):=by
 rw[List.getD_eq_getElem?_getD,List.getElem?_eq_getElem h];rfl
section
variable {n:Nat}(v:List Bool)(ih:∀ (f:FT),szT f<n→okT f→shT f v.length=true→Fn Tryz.prog 142 [.g (enF f),.d (enBo v)] [.d (.v (.bool (evT f v)))])
include ih in
theorem eval1T(f:FT)(h1:szT f<n)(h2:okT f)(h3:shT f v.length=true):FnB Tryz.prog 189 [.g (enF f)] [enBo v] (.bool (!evT f v)):=by
 have hf:=ih f h1 h2 h3;refine FnB.of Tryz.func189 rfl (by kernel_rfl) Tryz.ntmps189 Tryz.results189 rfl fun w0 S0=>?_;refine wk ?_;refine c1 hf ?_;refine wk ?_;cases evT f v with
 | true=>
   refine wk ?_;exact⟨.d rfl (.inl rfl),trivial⟩
 | false=>
   refine wk ?_;exact⟨.d rfl (.inl rfl),trivial⟩
include ih in
theorem eval2T(f:FT)(h1:szT f<n)(h2:okT f)(h3:shT f v.length=true):FnB Tryz.prog 190 [.g (enF f)] [enBo v] (.bool (evT f v)):=by
 have hf:=ih f h1 h2 h3;refine FnB.of Tryz.func190 rfl (by kernel_rfl) Tryz.ntmps190 Tryz.results190 rfl fun w0 S0=>?_;refine wk ?_;refine c1 hf ?_;refine wk ?_;exact⟨.d rfl (.inl rfl),trivial⟩
end
theorem evalFT(v:List Bool):∀ (n:Nat) (f:FT),szT f<n→okT f→shT f v.length=true→Fn Tryz.prog 142 [.g (enF f),.d (enBo v)] [.d (.v (.bool (evT f v)))]:=by
 intro n
 induction n with
 | zero=>intro f h;omega
 | succ n ih=>
 intro f hm hok hsh;obtain⟨k,a,s⟩:=f;obtain⟨hsl,hsg⟩:=okT_mk hok;have hsub:∀ g∈s,szT g<n:=fun g hg=>by have:=FT.lt (k:=k) (a:=a) hg;omega
 obtain⟨R,hR⟩:∃ R,evT (.mk k a s) v=R:=⟨_,rfl⟩
 rw[hR,enF_mk];rw[evT]at hR;by_cases k1:k=1
 ·subst k1;rw[if_pos rfl]at hR;obtain⟨a0,a1⟩:=shT_1 hsh;obtain⟨i,rfl⟩:=Int.eq_ofNat_of_zero_le a0;have hget:=bo_get (v:=v) (i:=i) (by omega);rw[Int.toNat_natCast]at hR;rw[hR]at hget;unfold enBo;refine Fn.of Tryz.func142 rfl (by kernel_rfl) Tryz.ntmps142 Tryz.results142 rfl fun w0 S0=>?_;refine wk ?_;exact⟨.d rfl (.inl rfl),trivial⟩
 rw[if_neg k1]at hR;by_cases k2:k=2
 ·rw[if_pos k2]at hR;subst k2;obtain⟨l1,hall⟩:=shT_2 hsh;obtain⟨g,rfl⟩:=List.length_eq_one_iff.1 l1;have hf:=ih g (hsub g (by simp)) (hsg g (by simp)) (hall g (by simp));rw[evHd]at hR;have hx:[g][0]?=some g:=rfl;cases hv:evT g v with
  | true=>
    rw[hv]at hf hR;subst hR;refine Fn.of Tryz.func142 rfl (by kernel_rfl) Tryz.ntmps142 Tryz.results142 rfl fun w0 S0=>?_;refine wk ?_;refine c1 hf ?_;refine wk ?_;exact⟨.d rfl (.inl rfl),trivial⟩
  | false=>
    rw[hv]at hf hR;subst hR;refine Fn.of Tryz.func142 rfl (by kernel_rfl) Tryz.ntmps142 Tryz.results142 rfl fun w0 S0=>?_;refine wk ?_;refine c1 hf ?_;refine wk ?_;exact⟨.d rfl (.inl rfl),trivial⟩
 rw[if_neg k2]at hR;by_cases k3:k=3
 ·rw[if_pos k3,evAll_eq]at hR;have hall:=shT_3 (.inl k3) hsh;refine Fn.of Tryz.func142 rfl (by kernel_rfl) Tryz.ntmps142 Tryz.results142 rfl fun w0 S0=>?_;refine wk ?_;(first | intro K ms hms hK | intro K hK | skip);refine Chain.pin 3 3 [enBo v] rfl rfl fun b=>?_;((try (first | intro K ms hms hK | intro K hK));(first | apply Chain.go | apply Chain.goD);exact rfl;exact rfl;exact Loc.mkFn rfl rfl);have hI:=hasFT s (fun f=>!evT f v) (Value.func (.func 189) #[] #[Value.pointer (some ⟨b,0,none⟩)]) hsl;((try (first | intro K ms hms hK | intro K hK));(first | apply Chain.go | apply Chain.goD);exact rfl;exact rfl;exact Loc.callW (R:=[3]) hI rfl ⟨.inl rfl,.inl rfl,trivial⟩ (fun _ _ _ _ hR2 hi x hx=>(eval1T v ih x (hsub x hx) (hsg x hx) (hall x hx)).here hi (id:=3) (by rw[hR2 3 (by simp)];rfl)));generalize (s.any fun f=>!evT f v)=y at hR;cases y with
  | true=>
    subst hR;refine wk ?_;exact⟨.d rfl (.inl rfl),trivial⟩
  | false=>
    subst hR;refine wk ?_;exact⟨.d rfl (.inl rfl),trivial⟩
 rw[if_neg k3]at hR;by_cases k4:k=4
 ·rw[if_pos k4,evAny_eq]at hR;have hall:=shT_3 (.inr k4) hsh;refine Fn.of Tryz.func142 rfl (by kernel_rfl) Tryz.ntmps142 Tryz.results142 rfl fun w0 S0=>?_;refine wk ?_;(first | intro K ms hms hK | intro K hK | skip);refine Chain.pin 3 3 [enBo v] rfl rfl fun b=>?_;((try (first | intro K ms hms hK | intro K hK));(first | apply Chain.go | apply Chain.goD);exact rfl;exact rfl;exact Loc.mkFn rfl rfl);have hI:=hasFT s (fun f=>evT f v) (Value.func (.func 190) #[] #[Value.pointer (some ⟨b,0,none⟩)]) hsl;((try (first | intro K ms hms hK | intro K hK));(first | apply Chain.go | apply Chain.goD);exact rfl;exact rfl;exact Loc.callW (R:=[3]) hI rfl ⟨.inl rfl,.inl rfl,trivial⟩ (fun _ _ _ _ hR2 hi x hx=>(eval2T v ih x (hsub x hx) (hsg x hx) (hall x hx)).here hi (id:=3) (by rw[hR2 3 (by simp)];rfl)));rw[hR];refine wk ?_;exact⟨.d rfl (.inl rfl),trivial⟩
 rw[if_neg k4]at hR;by_cases k5:k=5
 ·rw[decide_eq_true k5]at hR;subst hR;refine Fn.of Tryz.func142 rfl (by kernel_rfl) Tryz.ntmps142 Tryz.results142 rfl fun w0 S0=>?_;refine wk ?_;exact⟨.d rfl (.inl rfl),trivial⟩
 ·rw[decide_eq_false k5]at hR;subst hR;refine Fn.of Tryz.func142 rfl (by kernel_rfl) Tryz.ntmps142 Tryz.results142 rfl fun w0 S0=>?_;refine wk ?_;exact⟨.d rfl (.inl rfl),trivial⟩
def evR(f:FT)(v:List Bool):List DV:=if chkT f v.length=0 then [.d (.v (.bool (evT f v))),.d (.v (.int .i64 0))]else [.d (.v (.bool false)),.d (.v (.int .i64 (chkT f v.length)))]
theorem chk_0{f:FT}{n:Int}(h:chkT f n=0):shT f n=true:=by
 unfold chkT at h;split at h
 ·omega
 ·split at h
  ·assumption
  ·omega
theorem logEval(f:FT)(v:List Bool)(hok:okT f):Fn Tryz.prog 81 [.g (enF f),.d (enBo v)] (evR f v):=by
 have hc:=logCheck f hok v.length;unfold evR;have hl:(v.map fun b=>[D.v (.bool b)]).length=v.length:=List.length_map ..;by_cases h0:chkT f v.length=0
 ·rw[if_pos h0];have he:=evalFT v _ f (Nat.lt_succ_self _) hok (chk_0 h0);generalize chkT f v.length=c at hc h0;unfold enBo at he ⊢;refine Fn.of Tryz.func81 rfl (by kernel_rfl) Tryz.ntmps81 Tryz.results81 rfl fun w0 S0=>?_;refine wk ?_;refine c1 hc ?_;refine wk ?_;refine c1 he ?_;refine wk ?_;exact⟨.d rfl (.inl rfl),.d rfl (.inl rfl),trivial⟩
 ·rw[if_neg h0];generalize chkT f v.length=c at hc h0 ⊢;unfold enBo;refine Fn.of Tryz.func81 rfl (by kernel_rfl) Tryz.ntmps81 Tryz.results81 rfl fun w0 S0=>?_;refine wk ?_;refine c1 hc ?_;refine wk ?_;exact⟨.d rfl (.inl rfl),.d rfl (.inl rfl),trivial⟩
theorem eval11(v:List Bool):∀ (n:Nat) (f:FT),szT f<n→okT f→shT f v.length=true→Fn Tryz.prog 85 [.g (enF f),.d (enBo v)] [.d (.v (.bool (evT f v)))]:=by
 intro n
 induction n with
 | zero=>intro f h;omega
 | succ n ih=>
 intro f hm hok hsh;obtain⟨k,a,s⟩:=f;obtain⟨hsl,hsg⟩:=okT_mk hok;have hsub:∀ g∈s,szT g<n:=fun g hg=>by have:=FT.lt (k:=k) (a:=a) hg;omega
 obtain⟨R,hR⟩:∃ R,evT (.mk k a s) v=R:=⟨_,rfl⟩
 rw[hR,enF_mk];rw[evT]at hR;by_cases k1:k=1
 ·subst k1;rw[if_pos rfl]at hR;obtain⟨a0,a1⟩:=shT_1 hsh;obtain⟨i,rfl⟩:=Int.eq_ofNat_of_zero_le a0;have hget:=bo_get (v:=v) (i:=i) (by omega);rw[Int.toNat_natCast]at hR;rw[hR]at hget;unfold enBo;refine Fn.of Tryz.func85 rfl (by kernel_rfl) Tryz.ntmps85 Tryz.results85 rfl fun w0 S0=>?_;refine wk ?_;exact⟨.d rfl (.inl rfl),trivial⟩
 rw[if_neg k1]at hR;by_cases k2:k=2
 ·rw[if_pos k2]at hR;subst k2;obtain⟨l1,hall⟩:=shT_2 hsh;obtain⟨g,rfl⟩:=List.length_eq_one_iff.1 l1;have hf:=ih g (hsub g (by simp)) (hsg g (by simp)) (hall g (by simp));rw[evHd]at hR;have hx:[g][0]?=some g:=rfl;cases hv:evT g v with
  | true=>
    rw[hv]at hf hR;subst hR;refine Fn.of Tryz.func85 rfl (by kernel_rfl) Tryz.ntmps85 Tryz.results85 rfl fun w0 S0=>?_;refine wk ?_;refine c1 hf ?_;refine wk ?_;exact⟨.d rfl (.inl rfl),trivial⟩
  | false=>
    rw[hv]at hf hR;subst hR;refine Fn.of Tryz.func85 rfl (by kernel_rfl) Tryz.ntmps85 Tryz.results85 rfl fun w0 S0=>?_;refine wk ?_;refine c1 hf ?_;refine wk ?_;exact⟨.d rfl (.inl rfl),trivial⟩
 rw[if_neg k2]at hR;by_cases k3:k=3
 ·rw[if_pos k3]at hR;have hall:=shT_3 (.inl k3) hsh;refine Fn.of Tryz.func85 rfl (by kernel_rfl) Tryz.ntmps85 Tryz.results85 rfl fun w0 S0=>?_;refine wk ?_;refine AC.loop (X:=Nat) (fun i=>⟨[(1,.d (enBo v)),(30,.d (.l (s.map enF))),(31,.d (.v (.int .i64 (s.length:Int)))),(32,.d (.v (.int .i64 (i:Int))))],[]⟩) (fun i=>i≤s.length∧evAll (s.drop i) v=R) (fun i=>s.length-i) 0 ⟨Nat.zero_le _,hR⟩ ⟨rfl,rfl,rfl,rfl,trivial⟩ trivial ?_;intro i ⟨hi,hgo⟩;dsimp only at hi hgo ⊢;refine wk ?_;refine s1 (fun g1=>?_) (fun g1=>?_)
  ·have hi1:i<s.length:=by omega
   have hx:s[i]?=some s[i]:=List.getElem?_eq_getElem hi1;rw[List.drop_eq_getElem_cons hi1,evAll]at hgo;have hs:=hsub _ (List.getElem_mem hi1);have ho:=hsg _ (List.getElem_mem hi1);have ha:=hall _ (List.getElem_mem hi1);generalize s[i]=g at hx hs ho ha hgo;have hf:=ih g hs ho ha;cases hv:evT g v with
   | false=>
     rw[hv]at hf hgo;rw[Bool.false_and]at hgo;subst hgo;refine wk ?_;refine c1 hf ?_;refine wk ?_;exact⟨.d rfl (.inl rfl),trivial⟩
   | true=>
     rw[hv]at hf hgo;rw[Bool.true_and]at hgo;refine wk ?_;refine c1 hf ?_;refine wk ?_;exact⟨i+1,⟨hi1,hgo⟩,by omega,⟨rfl,rfl,rfl,rfl,trivial⟩,trivial⟩
  ·rw[List.drop_of_length_le (by omega),evAll]at hgo;subst hgo;refine wk ?_;exact⟨.d rfl (.inl rfl),trivial⟩
 rw[if_neg k3]at hR;by_cases k4:k=4
 ·rw[if_pos k4]at hR;have hall:=shT_3 (.inr k4) hsh;refine Fn.of Tryz.func85 rfl (by kernel_rfl) Tryz.ntmps85 Tryz.results85 rfl fun w0 S0=>?_;refine wk ?_;refine AC.loop (X:=Nat) (fun i=>⟨[(1,.d (enBo v)),(44,.d (.l (s.map enF))),(45,.d (.v (.int .i64 (s.length:Int)))),(46,.d (.v (.int .i64 (i:Int))))],[]⟩) (fun i=>i≤s.length∧evAny (s.drop i) v=R) (fun i=>s.length-i) 0 ⟨Nat.zero_le _,hR⟩ ⟨rfl,rfl,rfl,rfl,trivial⟩ trivial ?_;intro i ⟨hi,hgo⟩;dsimp only at hi hgo ⊢;refine wk ?_;refine s1 (fun g1=>?_) (fun g1=>?_)
  ·have hi1:i<s.length:=by omega
   have hx:s[i]?=some s[i]:=List.getElem?_eq_getElem hi1;rw[List.drop_eq_getElem_cons hi1,evAny]at hgo;have hs:=hsub _ (List.getElem_mem hi1);have ho:=hsg _ (List.getElem_mem hi1);have ha:=hall _ (List.getElem_mem hi1);generalize s[i]=g at hx hs ho ha hgo;have hf:=ih g hs ho ha;cases hv:evT g v with
   | true=>
     rw[hv]at hf hgo;rw[Bool.true_or]at hgo;subst hgo;refine wk ?_;refine c1 hf ?_;refine wk ?_;exact⟨.d rfl (.inl rfl),trivial⟩
   | false=>
     rw[hv]at hf hgo;rw[Bool.false_or]at hgo;refine wk ?_;refine c1 hf ?_;refine wk ?_;exact⟨i+1,⟨hi1,hgo⟩,by omega,⟨rfl,rfl,rfl,rfl,trivial⟩,trivial⟩
  ·rw[List.drop_of_length_le (by omega),evAny]at hgo;subst hgo;refine wk ?_;exact⟨.d rfl (.inl rfl),trivial⟩
 rw[if_neg k4]at hR;by_cases k5:k=5
 ·rw[decide_eq_true k5]at hR;subst hR;refine Fn.of Tryz.func85 rfl (by kernel_rfl) Tryz.ntmps85 Tryz.results85 rfl fun w0 S0=>?_;refine wk ?_;exact⟨.d rfl (.inl rfl),trivial⟩
 ·rw[decide_eq_false k5]at hR;subst hR;refine Fn.of Tryz.func85 rfl (by kernel_rfl) Tryz.ntmps85 Tryz.results85 rfl fun w0 S0=>?_;refine wk ?_;exact⟨.d rfl (.inl rfl),trivial⟩
end Go.Proofs.YthdkkpocihkgbaaGreatDoor
