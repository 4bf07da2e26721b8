import Derived.Test.YtbbpecfapohlaaaGreatDoorBlA
set_option maxRecDepth 100000
set_option maxHeartbeats 8000000
namespace Go.Proofs.YtbbpecfapohlaaaGreatDoor
open Go.RowKit
attribute [local irreducible] AC Do St
theorem wn{p q:Prop}(k:q)(hs:Wk q→p:=by
  intro k
  try (first | intro K ms hms hK | intro K hK)
  repeat (first
   | refine Chain.no rfl rfl ?_
   | refine Chain.noD rfl rfl ?_
   | ((first | apply Chain.go | apply Chain.goD);exact rfl;exact rfl;first
     | exact Loc.move (v:= .d _) rfl rfl
     | exact Loc.assign (v:= .d _) rfl rfl
     | exact Loc.loadP1 rfl rfl rfl rfl
     | exact Loc.loadQ1 rfl rfl rfl
     | exact Loc.fieldP rfl rfl rfl
     | exact Loc.fieldQ rfl rfl
     | exact Loc.pickT (v:= .d _) rfl rfl rfl
     | exact Loc.pickF (v:= .d _) rfl rfl rfl
     | exact Loc.loadPn rfl rfl rfl rfl (by kernel_rfl)
     | exact Loc.loadQw rfl rfl rfl
     | exact Loc.loadQn rfl rfl rfl rfl
     | exact Loc.idxM rfl rfl rfl rfl (by assumption) rfl
     | exact Loc.lenM rfl rfl
     | exact Loc.lenN rfl rfl
     | exact Loc.lenR rfl rfl rfl
     | exact Loc.len rfl rfl
     | exact Loc.lssT rfl rfl rfl (by omega)
     | exact Loc.lssF rfl rfl rfl (by omega)
     | exact Loc.eqlT rfl rfl rfl (by omega)
     | exact Loc.eqlF rfl rfl rfl (by omega)
     | exact Loc.neqT rfl rfl rfl (by omega)
     | exact Loc.neqF rfl rfl rfl (by omega)
     | exact Loc.gtrT rfl rfl rfl (by omega)
     | exact Loc.gtrF rfl rfl rfl (by omega)
     | exact Loc.geqT rfl rfl rfl (by omega)
     | exact Loc.geqF rfl rfl rfl (by omega)
     | exact Loc.leqT rfl rfl rfl (by omega)
     | exact Loc.leqF rfl rfl rfl (by omega)
     | exact Loc.add rfl rfl rfl (IntWalk.i64_in _ (by omega))
     | exact Loc.sub rfl rfl rfl (IntWalk.i64_in _ (by omega))
     | exact Loc.notT rfl rfl
     | exact Loc.notF rfl rfl
     | exact Loc.fieldE rfl rfl rfl
     | exact Loc.loadE1 rfl rfl rfl (by assumption) rfl
     | exact Loc.idxR rfl rfl rfl rfl rfl (by omega) rfl
     | exact Loc.move (v:= .g _) rfl rfl
     | exact Loc.move (v:= .p _ _) rfl rfl
     | exact Loc.move (v:= .r _ _) rfl rfl
     | exact Loc.move (v:= .t _) rfl rfl
     | exact Loc.assign (v:= .g _) rfl rfl
     | exact Loc.assign (v:= .r _ _) rfl rfl
     | exact Loc.assign (v:= .p _ _) rfl rfl
     | exact Loc.extract (v:= .d _) rfl rfl rfl rfl
     | exact Loc.extract (v:= .g _) rfl rfl rfl rfl
     | exact Loc.pickT (v:= .g _) rfl rfl rfl
     | exact Loc.pickF (v:= .g _) rfl rfl rfl
     | exact Loc.move (v:= .un) rfl rfl
     | exact Loc.build rfl rfl rfl rfl)
   | refine Chain.nil0 (hK _ ?_)
   | ((first | apply Chain.st | apply Chain.stD);exact rfl;exact rfl;(first
     | exact Do.storeP rfl rfl rfl rfl .g rfl rfl rfl
     | exact Do.storeP rfl rfl rfl rfl .d rfl rfl rfl
     | exact Do.storeP rfl rfl rfl rfl (.r rfl) rfl rfl rfl);exact rfl;exact rfl)
   | ((first | apply Chain.ef | apply Chain.efD);exact rfl;exact rfl;(first
     | exact Do.alloc rfl rfl rfl
     | exact Do.box rfl rfl rfl .g rfl
     | exact Do.box rfl rfl rfl .d rfl
     | exact Do.lit0 rfl rfl
     | exact Do.append1 rfl rfl rfl rfl rfl rfl (by first | omega | (simp;omega))
     | exact Do.appendN1 rfl rfl rfl rfl rfl rfl);exact rfl;exact rfl)
   | refine Chain.nilD (by rw[hms];kernel_rfl) (hK _ ?_)
   | refine Chain.noN rfl rfl ?_
   | refine AC.seq ?_
   | (refine AC.reg (by decide+kernel) ?_;intro K hK)
   | (refine AC.regG (by decide+kernel) ?_;intro K hK)
   | (refine AC.drw (by kernel_rfl) (by decide+kernel) ?_;intro K ms hms hK)
   | (refine AC.drwG (by kernel_rfl) (by decide+kernel) ?_;intro K ms hms hK)
   | refine AC.condT rfl ?_
   | refine AC.condF rfl ?_
   | refine AC.block ?_
   | refine AC.exit ?_
   | refine AC.ret ?_
   | refine AC.skip ?_)
  first
   | exact k.out
   | (revert K;exact k.out)
   | (revert K ms;exact k.out)):p:=hs ⟨k⟩
theorem bAdd(x y:Nat)(hl:(bits x).length≤500000000)(hm:(bits y).length≤500000000):Fn Tryz.prog 160 [.d (enB (bits x)),.d (enB (bits y))] [.d (enB (bits (x+y)))]:=by
 have:=add02 (bits x) (bits y) hl hm;rwa[bits_val,bits_val]at this
theorem bSub(x y:Nat)(hl:(bits x).length≤500000000)(hxy:y≤x):Fn Tryz.prog 247 [.d (enB (bits x)),.d (enB (bits y))] [.d (enB (bits (x-y)))]:=by
 have hlen:(bits y).length≤(bits x).length:=by rw[bits_len,bits_len];exact digs_len_mono (by decide) hxy
 have hvx:=bits_val x;have hvy:=bits_val y;have hlt:=bval_lt (bits x);generalize bits x=p at*;generalize bits y=q at*;refine Fn.of Tryz.func247 rfl (by kernel_rfl) Tryz.ntmps247 Tryz.results247 rfl fun w0 S0=>?_;refine wa ?_;refine AC.loop (X:=Nat×List Bool×Nat) (fun s=>⟨[(0,.d (enB p)),(1,.d (enB q)),(5,.r 9 s.1),(6,.d (.v (.int .i64 (s.2.2:Int)))),(11,.d (.v (.int .i64 (p.length:Int)))),(12,.d (.v (.int .i64 (s.1:Int))))],[(9,.row s.1 4 1 (s.2.1.map fun b=>[.v (encB b)]))]⟩) (fun s=>s.1≤p.length∧s.2.2≤1∧s.2.1.length=s.1∧bval s.2.1+bval (q.take s.1)=bval (p.take s.1)+2^s.1*s.2.2) (fun s=>p.length-s.1) (0,[],0) ⟨by dsimp only;omega,by dsimp only;omega,rfl,by simp[bval_nil]⟩ ⟨rfl,rfl,rfl,rfl,rfl,rfl,trivial⟩ ⟨rfl,trivial⟩ ?_;intro ⟨k,o,c⟩ ⟨hk,hc,hol,hi⟩;dsimp only at hk hc hol hi ⊢;have hlo:(o.map fun b=>[D.v (encB b)]).length=k:=by rw[List.length_map];exact hol
 by_cases hend:k=p.length
 ·subst hend;rw[List.take_of_length_le (Nat.le_refl _),List.take_of_length_le hlen,hvx,hvy]at hi;have hbo:=bval_lt o;rw[hol]at hbo;have hr:=subB_end hi hbo hxy;clear hi hbo hlt;refine wa ?_;(first | intro K ms hms hK | intro K hK);refine Chain.frzVar 45 rfl rfl ?_;refine c1 (cut02 o (by omega)) ?_;refine wa ?_;rw[hr];exact⟨.d rfl (.inl rfl),trivial⟩
 have hA:=bitC p k;have hB:=bitC q k;have hst:∀ (z:Bool) (d:Nat),z.toNat+bitN q k+c=bitN p k+2*d→bval (o++[z])+bval (q.take (k+1))=bval (p.take (k+1))+2^(k+1)*d:=fun z d h=>subB_step hol hi h;generalize bitN p k=x' at hA hst;generalize bitN q k=y' at hB hst;have hol':∀ z:Bool,(o++[z]).length=k+1:=fun z=>by rw[List.length_append,hol];rfl
 have HS:=Lib.hid (And.intro hst hol');clear hst hi hol hol' hlt hvx hvy;have hc2:c=0∨c=1:=by omega
 rcases hA with ⟨a1,a2,rfl⟩ | ⟨a1,a2,rfl⟩ | ⟨a1,a2,rfl⟩<;>rcases hB with ⟨b1,b2,rfl⟩ | ⟨b1,b2,rfl⟩ | ⟨b1,b2,rfl⟩<;>rcases hc2 with rfl | rfl
 all_goals try (exfalso;omega)
 all_goals
  refine wa ?_;((try (first | intro K ms hms hK | intro K hK));(first | apply Chain.go | apply Chain.goD);exact rfl;exact rfl;exact Loc.neg rfl rfl (by decide));refine wa ?_
  first
   | exact⟨(k+1,o++[false],0),⟨by dsimp only;omega,(show (0:Nat)≤1 by decide),HS.out.2 _,HS.out.1 false 0 (by decide)⟩,by dsimp only;omega,⟨rfl,rfl,rfl,rfl,rfl,rfl,trivial⟩,⟨by dsimp only;rw[List.map_append];rfl,trivial⟩⟩
   | exact⟨(k+1,o++[true],0),⟨by dsimp only;omega,(show (0:Nat)≤1 by decide),HS.out.2 _,HS.out.1 true 0 (by decide)⟩,by dsimp only;omega,⟨rfl,rfl,rfl,rfl,rfl,rfl,trivial⟩,⟨by dsimp only;rw[List.map_append];rfl,trivial⟩⟩
   | exact⟨(k+1,o++[false],1),⟨by dsimp only;omega,(show (1:Nat)≤1 by decide),HS.out.2 _,HS.out.1 false 1 (by decide)⟩,by dsimp only;omega,⟨rfl,rfl,rfl,rfl,rfl,rfl,trivial⟩,⟨by dsimp only;rw[List.map_append];rfl,trivial⟩⟩
   | exact⟨(k+1,o++[true],1),⟨by dsimp only;omega,(show (1:Nat)≤1 by decide),HS.out.2 _,HS.out.1 true 1 (by decide)⟩,by dsimp only;omega,⟨rfl,rfl,rfl,rfl,rfl,rfl,trivial⟩,⟨by dsimp only;rw[List.map_append];rfl,trivial⟩⟩
theorem bWord(u:Nat)(hu:u<18446744073709551616):Fn Tryz.prog 161 [.d (.v (.int .u64 (u:Int)))] [.d (enB (bits u))]:=by
 refine Fn.of Tryz.func161 rfl (by kernel_rfl) Tryz.ntmps161 Tryz.results161 rfl fun w0 S0=>?_;refine wa ?_;refine AC.loop (X:=Nat×List Bool×Nat) (fun s=>⟨[(0,.d (.v (.int .u64 (s.2.2:Int)))),(3,.r 4 s.1)],[(4,.row s.1 4 1 (s.2.1.map fun b=>[.v (encB b)]))]⟩) (fun s=>s.2.1.length=s.1∧s.1≤64∧s.2.2<2^(64-s.1)∧s.2.1++bits s.2.2=bits u) (fun s=>64-s.1) (0,[],u) ⟨rfl,(show (0:Nat)≤64 by decide),hu,rfl⟩ ⟨rfl,rfl,trivial⟩ ⟨rfl,trivial⟩ ?_;intro ⟨k,o,r⟩ ⟨hol,hk,hr,hi⟩;dsimp only at hol hk hr hi ⊢;have hlo:(o.map fun b=>[D.v (encB b)]).length=k:=by rw[List.length_map];exact hol
 have hr64:r<18446744073709551616:=Nat.lt_of_lt_of_le hr (Nat.pow_le_pow_right (by decide) (by omega):2^(64-k)≤2^64);by_cases h0:r=0
 ·subst h0;rw[bits_eq_nil.2 rfl,List.append_nil]at hi;rw[←hi];refine wa ?_;exact⟨.d rfl ⟨_,_,rfl⟩,trivial⟩
 ·have hk64:k<64:=by
   rcases Nat.lt_or_ge k 64 with h | h
   ·exact h
   ·have:k=64:=by omega
    subst this;simp at hr;omega
  have hp:2^(64-k)=2^(64-(k+1))*2:=by rw[←Nat.pow_succ];congr 1;omega
  have hs:bits r=decide (((r:Int) % 2)=1)::bits (r / 2):=by
   unfold bits;rw[digs_pos (by decide) h0,List.map_cons]
   congr 1
   rcases Nat.mod_two_eq_zero_or_one r with h | h
   ·rw[h,decide_eq_false (by omega)];rfl
   ·rw[h,decide_eq_true (by omega)];rfl
  rw[hs]at hi;have hr2:r / 2<2^(64-(k+1)):=by rw[hp]at hr;omega
  have HS:=Lib.hid (And.intro hr2 hi);clear hr2 hi hr hp hs;refine wa ?_;((try (first | intro K ms hms hK | intro K hK));(first | apply Chain.go | apply Chain.goD);exact rfl;exact rfl;exact Loc.rem rfl rfl rfl (by omega) (by decide));((try (first | intro K ms hms hK | intro K hK));(first | apply Chain.go | apply Chain.goD);exact rfl;exact rfl;exact Loc.eqlB _ rfl rfl rfl rfl);refine wa ?_;((try (first | intro K ms hms hK | intro K hK));(first | apply Chain.go | apply Chain.goD);exact rfl;exact rfl;exact Loc.quo rfl rfl rfl (by omega) (by decide) (by simp only[IntKind.wrap,IntKind.bits,IntKind.signed,Bool.false_and];rw[if_neg (by decide)];omega));refine wa ?_;exact⟨(k+1,o++[decide (((r:Nat):Int) % 2=1)],r / 2),⟨by rw[List.length_append,hol];rfl,by dsimp only;omega,HS.out.1,by rw[List.append_assoc];exact HS.out.2⟩,by dsimp only;omega,⟨rfl,rfl,trivial⟩,⟨by dsimp only;rw[List.map_append];rfl,trivial⟩⟩
theorem bit_len_lt{x y:Nat}(h:(bits x).length<(bits y).length):cmpN x y= -1:=cmpN_lt (bits_lt_len h)
theorem bit_len_gt{x y:Nat}(h:(bits y).length<(bits x).length):cmpN x y=1:=cmpN_gt (bits_lt_len h)
theorem bit_top{x y i:Nat}(hl:(bits x).length=(bits y).length)(hi:i<(bits x).length)(hi':i<(bits y).length)(he:(bits x).drop (i+1)=(bits y).drop (i+1)):
  ((bits x)[i]=false→(bits y)[i]=true→cmpN x y= -1)∧((bits y)[i]=false→(bits x)[i]=true→cmpN x y=1):=by
 constructor
 ·intro h1 h2;have:=topB_lt hi hi' hl he h1 h2;rw[bits_val,bits_val]at this;exact cmpN_lt this
 ·intro h1 h2;have:=topB_lt hi' hi hl.symm he.symm h1 h2;rw[bits_val,bits_val]at this;exact cmpN_gt this
theorem bits_mul_len{x z n:Nat}(hz:z<2^n):(bits (x*z)).length≤(bits x).length+n:=by
 refine bits_len_le ?_;have h1:=bval_lt (bits x);rw[bits_val]at h1;exact lt_pow_mul h1 hz
theorem bval_take_lt(p:List Bool)(i:Nat):bval (p.take i)<2^i:=by
 have h1:=bval_lt (p.take i);exact Nat.lt_of_lt_of_le h1 (Nat.pow_le_pow_right (by decide) (List.length_take_le _ _))
theorem div_top{p:List Bool}{o:List Bool}{j Q R y:Nat}(hj:j<p.length)(h:bval (p.drop (j+1))=Q*y+R)(hR:R<y)(ho:bval o=2^(j+1)*Q)(hol:j<o.length)(hz:o.getD j false=false):
  (y≤p[j].toNat+2*R→bval (p.drop j)=(2*Q+1)*y+(p[j].toNat+2*R-y)∧bval (o.set j true)=2^j*(2*Q+1)∧p[j].toNat+2*R-y<y)∧
  (p[j].toNat+2*R<y→bval (p.drop j)=(2*Q)*y+(p[j].toNat+2*R)∧bval o=2^j*(2*Q)):=by
 rw[bval_drop hj];have hb:p[j].toNat≤1:=by cases p[j]<;>simp
 constructor
 ·intro hge;refine⟨divB_ge h hR hge,?_,by omega⟩;rw[bval_set hol (by rw[getD_in _ _ hol]at hz;exact hz),ho,Nat.pow_succ,Nat.mul_add,Nat.mul_assoc];simp
 ·intro hlt;exact⟨divB_lt h,by rw[ho,Nat.pow_succ,Nat.mul_assoc]⟩
set_option maxRecDepth 100000
set_option maxHeartbeats 8000000
theorem bCmp(x y:Nat)(hl:(bits x).length≤500000000):Fn Tryz.prog 246 [.d (enB (bits x)),.d (enB (bits y))] [.d (.v (.int .i64 (cmpN x y)))]:=by
 rcases Nat.lt_trichotomy (bits x).length (bits y).length with h | h | h
 ·rw[bit_len_lt h];refine Fn.of Tryz.func246 rfl (by kernel_rfl) Tryz.ntmps246 Tryz.results246 rfl fun w0 S0=>?_;refine wa ?_;exact⟨.d rfl (.inl rfl),trivial⟩
 ·have hT:= @bit_top x y;have hI:(bits x).drop 0=(bits y).drop 0→cmpN x y=0:=fun e=>by
   rw[List.drop_zero,List.drop_zero]at e;rw[bits_inj e];exact cmpN_eq y
  generalize cmpN x y=c at*;generalize bits x=p at*;generalize bits y=q at*;refine Fn.of Tryz.func246 rfl (by kernel_rfl) Tryz.ntmps246 Tryz.results246 rfl fun w0 S0=>?_;refine wa ?_;refine AC.loop (X:=Nat) (fun k=>⟨[(0,.d (enB p)),(1,.d (enB q)),(5,.d (.v (.int .i64 ((k:Int)-1))))],[]⟩) (fun k=>k≤p.length∧p.drop k=q.drop k) (fun k=>k) p.length ⟨Nat.le_refl _,by rw[List.drop_eq_nil_of_le (Nat.le_refl _),List.drop_eq_nil_of_le (by omega)]⟩ ⟨rfl,rfl,rfl,trivial⟩ trivial ?_;intro k ⟨hk,hd⟩;cases k with
  | zero=>
    have hc:=hI hd;refine wa ?_;rw[hc];exact⟨.d rfl (.inl rfl),trivial⟩
  | succ j=>
    have e:((j+1:Nat):Int)-1=(j:Int):=by omega
    obtain⟨hT1,hT2⟩:=hT (i:=j) h (by omega) (by omega) hd;have g1:p[j]?=some p[j]:=List.getElem?_eq_getElem (by omega);have g2:q[j]?=some q[j]:=List.getElem?_eq_getElem (by omega);have hdr:p[j]=q[j]→p.drop j=q.drop j:=fun e=>by rw[List.drop_eq_getElem_cons (show j<p.length by omega),List.drop_eq_getElem_cons (show j<q.length by omega),e,hd]
    generalize p[j]=a at*;generalize q[j]=b at*;rw[e];clear hI hT;cases a<;>cases b
    ·have:=hdr rfl;refine wa ?_;exact⟨j,⟨by omega,this⟩,by omega,⟨rfl,rfl,rfl,trivial⟩,trivial⟩
    ·rw[hT1 rfl rfl];refine wa ?_;exact⟨.d rfl (.inl rfl),trivial⟩
    ·rw[hT2 rfl rfl];refine wa ?_;exact⟨.d rfl (.inl rfl),trivial⟩
    ·have:=hdr rfl;refine wa ?_;exact⟨j,⟨by omega,this⟩,by omega,⟨rfl,rfl,rfl,trivial⟩,trivial⟩
 ·rw[bit_len_gt h];refine Fn.of Tryz.func246 rfl (by kernel_rfl) Tryz.ntmps246 Tryz.results246 rfl fun w0 S0=>?_;refine wa ?_;exact⟨.d rfl (.inl rfl),trivial⟩
theorem shl02(p:List Bool)(s:Nat)(hl:p.length≤500000000)(hs:s≤500000000):Fn Tryz.prog 248 [.d (enB p),.d (.v (.int .i64 (s:Int)))] [.d (enB (bits (bval p*2^s)))]:=by
 have hc:=cut02 (List.replicate s false++p) (by simp;omega);rw[bval_append,bval_zeros,List.length_replicate,Nat.zero_add,Nat.mul_comm]at hc;have hrl:((List.replicate s false).map fun b=>[D.v (encB b)]).length=s:=by simp
 refine Fn.of Tryz.func248 rfl (by kernel_rfl) Tryz.ntmps248 Tryz.results248 rfl fun w0 S0=>?_;refine wa ?_;((try (first | intro K ms hms hK | intro K hK));(first | apply Chain.ef | apply Chain.efD);exact rfl;exact rfl;exact Do.makeM (f:=fun b=>[D.v (encB b)]) false s s rfl rfl rfl rfl rfl rfl (Nat.le_refl _) (by omega);exact rfl;exact rfl);refine wa ?_;((try (first | intro K ms hms hK | intro K hK));(first | apply Chain.ef | apply Chain.efD);exact rfl;exact rfl;exact Do.appendF (ys:=p.map fun b=>[D.v (encB b)]) rfl rfl rfl rfl rfl (fun c hc=>by obtain⟨_,_,rfl⟩:=List.mem_map.1 hc;rfl) (by rw[hrl,List.length_map];omega);exact rfl;exact rfl);rw[←List.map_append];refine c1 hc ?_;refine wa ?_;exact⟨.d rfl (.inl rfl),trivial⟩
theorem copyU(l:List Nat)(hl:l.length≤1000000000):Fn Tryz.prog 202 [.d (enL l)] [.d (enL l)]:=by
 refine Fn.of Tryz.func202 rfl (by kernel_rfl) Tryz.ntmps202 Tryz.results202 rfl fun w0 S0=>?_;refine wa ?_;((try (first | intro K ms hms hK | intro K hK));(first | apply Chain.ef | apply Chain.efD);exact rfl;exact rfl;exact Do.append (ys:=l.map fun c=>[D.v (encU c)]) rfl rfl rfl rfl rfl (fun c hc=>by obtain⟨_,_,rfl⟩:=List.mem_map.1 hc;rfl) (by simp;omega);exact rfl;exact rfl);refine wa ?_;exact⟨.d rfl ⟨_,_,rfl⟩,trivial⟩
theorem bitsOf(l:List Nat)(hl:l.length≤10000000)(hd:∀ x∈l,x<4294967296):Fn Tryz.prog 136 [.d (enL l)] [.d (enB (bits (dval 4294967296 l)))]:=by
 refine Fn.of Tryz.func136 rfl (by kernel_rfl) Tryz.ntmps136 Tryz.results136 rfl fun w0 S0=>?_;refine wa ?_;refine AC.loop (X:=Nat×List Bool×Nat) (fun s=>⟨[(3,.r 7 s.2.2),(8,.d (enL l)),(9,.d (.v (.int .i64 (l.length:Int)))),(10,.d (.v (.int .i64 (s.1:Int))))],[(7,.row s.2.2 4 1 (s.2.1.map fun b=>[.v (encB b)]))]⟩) (fun s=>s.1≤l.length∧s.2.1.length=32*s.1∧bval s.2.1=dval 4294967296 (l.take s.1)) (fun s=>l.length-s.1) (0,[],0) ⟨Nat.zero_le _,rfl,by simp[bval_nil]⟩ ⟨rfl,rfl,rfl,rfl,trivial⟩ ⟨rfl,trivial⟩ ?_;intro ⟨k,o,g⟩ ⟨hk,hol,hi⟩;dsimp only at hk hol hi ⊢;by_cases hend:k=l.length
 ·subst hend;rw[List.take_length]at hi;refine wa ?_;(first | intro K ms hms hK | intro K hK);refine Chain.frzVar 27 rfl rfl ?_;refine c1 (cut02 o (by omega)) ?_;refine wa ?_;rw[hi];exact⟨.d rfl (.inl rfl),trivial⟩
 have hk':k<l.length:=by omega
 have hg:l[k]?=some l[k]:=List.getElem?_eq_getElem hk';have hu:=hd _ (List.getElem_mem hk');have hs:=dval_take_succ (B:=4294967296) hk';generalize l[k]=u at hg hu hs;refine wa ?_;refine AC.loop (X:=Nat×List Bool×Nat×Nat) (fun s=>⟨[(3,.r 7 s.2.2.2),(8,.d (enL l)),(9,.d (.v (.int .i64 (l.length:Int)))),(10,.d (.v (.int .i64 (k:Int)))),(5,.d (.v (.int .u32 (s.2.2.1:Int)))),(6,.d (.v (.int .i64 (s.1:Int))))],[(7,.row s.2.2.2 4 1 ((o++s.2.1).map fun b=>[.v (encB b)]))]⟩) (fun s=>s.1≤32∧s.2.1.length=s.1∧s.2.2.1<2^(32-s.1)∧bval s.2.1+2^s.1*s.2.2.1=u) (fun s=>32-s.1) (0,[],u,g) ⟨by dsimp only;omega,rfl,hu,by simp[bval_nil]⟩ ⟨rfl,rfl,rfl,rfl,rfl,rfl,trivial⟩ ⟨by dsimp only;rw[List.append_nil];rfl,trivial⟩ ?_;intro ⟨j,o2,r,g2⟩ ⟨hj,hl2,hr,hi2⟩;dsimp only at hj hl2 hr hi2 ⊢;have hr32:r<4294967296:=Nat.lt_of_lt_of_le hr (Nat.pow_le_pow_right (by decide) (by omega):2^(32-j)≤2^32);by_cases hj2:j=32
 ·subst hj2;have hr0:r=0:=by simp at hr;exact hr
  subst hr0;have hb:bval (o++o2)=dval 4294967296 (l.take (k+1)):=by
   rw[bval_append,hol,hs,hi,←pow32,show bval o2=u by omega]
  refine wa ?_;exact⟨(k+1,o++o2,g2),⟨hk',by dsimp only;rw[List.length_append];omega,hb⟩,by dsimp only;omega,⟨rfl,rfl,rfl,rfl,trivial⟩,⟨rfl,trivial⟩⟩
 ·have hp:2^(32-j)=2^(32-(j+1))*2:=by rw[←Nat.pow_succ];congr 1;omega
  have hr2:r / 2<2^(32-(j+1)):=by rw[hp]at hr;omega
  have hst:=ofB_step (x:=decide (((r:Nat):Int) % 2=1)) hi2 hl2 (by
   rcases Nat.mod_two_eq_zero_or_one r with h | h
   ·rw[h,decide_eq_false (by omega)];rfl
   ·rw[h,decide_eq_true (by omega)];rfl)
  have hle:((o++o2).map fun b=>[D.v (encB b)]).length≤400000000:=by rw[List.length_map,List.length_append];omega
  have HS:=Lib.hid (And.intro hr2 hst);clear hr2 hst hr hp hi2 hi hs hd;refine wa ?_;((try (first | intro K ms hms hK | intro K hK));(first | apply Chain.go | apply Chain.goD);exact rfl;exact rfl;exact Loc.rem rfl rfl rfl (by omega) (by decide));((try (first | intro K ms hms hK | intro K hK));(first | apply Chain.go | apply Chain.goD);exact rfl;exact rfl;exact Loc.eqlB _ rfl rfl rfl rfl);refine wa ?_;((try (first | intro K ms hms hK | intro K hK));(first | apply Chain.go | apply Chain.goD);exact rfl;exact rfl;exact Loc.quo rfl rfl rfl (by omega) (by decide) (by simp only[IntKind.wrap,IntKind.bits,IntKind.signed,Bool.false_and];rw[if_neg (by decide)];omega));refine wa ?_;exact⟨(j+1,o2++[decide (((r:Nat):Int) % 2=1)],r / 2,g2+1),⟨by dsimp only;omega,by rw[List.length_append,hl2];rfl,HS.out.1,HS.out.2⟩,by dsimp only;omega,⟨rfl,rfl,rfl,rfl,rfl,rfl,trivial⟩,⟨by dsimp only;simp only[List.map_append,List.append_assoc];rfl,trivial⟩⟩
theorem bMul(x y:Nat)(hl:(bits x).length+(bits y).length≤400000000):Fn Tryz.prog 218 [.d (enB (bits x)),.d (enB (bits y))] [.d (enB (bits (x*y)))]:=by
 have hvy:=bits_val y;have hsh:∀ k,k<(bits y).length→Fn Tryz.prog 248 [.d (enB (bits x)),.d (.v (.int .i64 (k:Int)))] [.d (enB (bits (x*2^k)))]:=fun k hk=>by
  have:=shl02 (bits x) k (by omega) (by omega);rwa[bits_val]at this
 have hl1:∀ {z k:Nat},z<2^k→k≤(bits y).length→(bits (x*z)).length≤400000000:=fun hz hk=>by
  have:=bits_mul_len (x:=x) hz;omega
 generalize bits y=q at*;have hxl:(bits x).length≤400000000:=by omega
 refine Fn.of Tryz.func218 rfl (by kernel_rfl) Tryz.ntmps218 Tryz.results218 rfl fun w0 S0=>?_;refine wa ?_;refine AC.frzVar 5 rfl rfl ?_;refine AC.loop (X:=Nat) (fun k=>⟨[(0,.d (enB (bits x))),(1,.d (enB q)),(5,.d (enB (bits (x*bval (q.take k))))),(9,.d (.v (.int .i64 (q.length:Int)))),(10,.d (.v (.int .i64 (k:Int))))],[]⟩) (fun k=>k≤q.length) (fun k=>q.length-k) 0 (Nat.zero_le _) ⟨rfl,rfl,by rw[List.take_zero,bval_nil,Nat.mul_zero,bits_eq_nil.2 rfl];rfl,rfl,rfl,trivial⟩ trivial ?_;intro k hk;by_cases hend:k=q.length
 ·subst hend;rw[List.take_length,hvy];refine wa ?_;exact⟨.d rfl (.inl rfl),trivial⟩
 have hk':k<q.length:=by omega
 have hg:q[k]?=some q[k]:=List.getElem?_eq_getElem hk';have hs:=bval_take_succ hk';have hb1:=bval_take_lt q k;generalize q[k]=b at hg hs;cases b with
 | false=>
   rw[Bool.toNat_false,Nat.mul_zero,Nat.add_zero]at hs;refine wa ?_;exact⟨k+1,hk',by omega,⟨rfl,rfl,by rw[hs];rfl,rfl,rfl,trivial⟩,trivial⟩
 | true=>
   rw[Bool.toNat_true,Nat.mul_one]at hs;have h1:=hsh k hk';have h2:=bAdd (x*bval (q.take k)) (x*2^k) (by have:=hl1 hb1 hk;omega) (by have:=hl1 (z:=2^k) (k:=k+1) (by rw[Nat.pow_succ];have:=Nat.pow_pos (n:=k) (show 0<2 by decide);omega) hk';omega);rw[←Nat.mul_add,←hs]at h2;generalize bval (q.take k)=V at*;clear hl1 hsh;refine wa ?_;exact⟨k+1,hk',by omega,⟨rfl,rfl,rfl,rfl,rfl,trivial⟩,trivial⟩
theorem qDivMod(x y:Nat)(hl:(bits x).length≤200000000)(hm:(bits y).length≤200000000)(hy:0<y):Fn Tryz.prog 215 [.d (enB (bits x)),.d (enB (bits y))] [.d (enB (bits (x / y))),.d (enB (bits (x % y)))]:=by
 have hvx:=bits_val x;have hly:∀ {r:Nat},r<y→(bits r).length≤200000000:=fun h=>by rw[bits_len]at hm ⊢;exact Nat.le_trans (digs_len_mono (by decide) (Nat.le_of_lt h)) hm
 generalize bits x=p at*;have hrl:((List.replicate p.length false).map fun b=>[D.v (encB b)]).length=p.length:=by simp
 refine Fn.of Tryz.func215 rfl (by kernel_rfl) Tryz.ntmps215 Tryz.results215 rfl fun w0 S0=>?_;refine wa ?_;((try (first | intro K ms hms hK | intro K hK));(first | apply Chain.ef | apply Chain.efD);exact rfl;exact rfl;exact Do.makeM (f:=fun b=>[D.v (encB b)]) false p.length p.length rfl rfl rfl rfl rfl rfl (Nat.le_refl _) (by omega);exact rfl;exact rfl);refine wa ?_;refine AC.frzVar 7 rfl rfl ?_;refine AC.loop (X:=Nat×List Bool×Nat×Nat) (fun s=>⟨[(0,.d (enB p)),(1,.d (enB (bits y))),(6,.r 11 0),(7,.d (enB (bits s.2.2.2))),(8,.d (.v (.int .i64 ((s.1:Int)-1))))],[(11,.row 0 4 1 (s.2.1.map fun b=>[.v (encB b)]))]⟩) (fun s=>s.1≤p.length∧s.2.1.length=p.length∧(∀j,j<s.1→s.2.1.getD j false=false)∧bval s.2.1=2^s.1*s.2.2.1∧bval (p.drop s.1)=s.2.2.1*y+s.2.2.2∧s.2.2.2<y) (fun s=>s.1) (p.length,List.replicate p.length false,0,0) ⟨Nat.le_refl _,by simp,fun j hj=>by rw[List.getD_eq_getElem?_getD,List.getElem?_replicate];split<;>rfl,by dsimp only;rw[bval_zeros];omega,by dsimp only;rw[List.drop_length,bval_nil];omega,hy⟩ ⟨rfl,rfl,rfl,by dsimp only;rw[bits_eq_nil.2 rfl];rfl,rfl,trivial⟩ ⟨rfl,trivial⟩ ?_;intro ⟨k,o,Q,R⟩ ⟨hk,hol,hz,hv,hd,hR⟩;dsimp only at hk hol hz hv hd hR ⊢;cases k with
 | zero=>
   rw[List.drop_zero,hvx]at hd;obtain⟨e1,e2⟩:=div_unique hd hR;rw[←e1,←e2];have hc:=cut02 o (by omega);rw[hv,Nat.pow_zero,Nat.one_mul]at hc;refine wa ?_;(first | intro K ms hms hK | intro K hK);refine Chain.frzVar 38 rfl rfl ?_;refine c1 hc ?_;refine wa ?_;exact⟨.d rfl (.inl rfl),.d rfl (.inl rfl),trivial⟩
 | succ j=>
   have hj:j<p.length:=by omega
   have e:((j+1:Nat):Int)-1=(j:Int):=by omega
   have g1:p[j]?=some p[j]:=List.getElem?_eq_getElem hj;have hg2:o[j]?=some false:=by
    have:=hz j (by omega);rw[List.getD_eq_getElem?_getD,List.getElem?_eq_getElem (by omega)]at this;rw[List.getElem?_eq_getElem (by omega)];exact congrArg some this
   obtain⟨hge,hlt⟩:=div_top hj hd hR hv (by omega) (hz j (by omega));have hz':∀ i,i<j→o.getD i false=false:=fun i hi=>hz i (by omega);have hz2:∀ i,i<j→(o.set j true).getD i false=false:=fun i hi=>by
    rw[List.getD_eq_getElem?_getD,List.getElem?_set_ne (by omega),←List.getD_eq_getElem?_getD];exact hz' i hi
   have hcut:=cut02 (p[j]::bits R) (by have:=hly hR;simp;omega);rw[bval_cons,bits_val]at hcut;generalize p[j]=b at*;have hbn:b.toNat≤1:=by cases b<;>simp
   have hN:(bits (b.toNat+2*R)).length≤200000001:=by
    have h1:=bits_mul_len (x:=R) (z:=2) (n:=2) (by decide);have h2:=hly hR;refine Nat.le_trans ?_ (Nat.succ_le_succ h2);rw[bits_len,bits_len];refine digs_len (by decide) ?_;have h3:R<2^(digs 2 R).length:=by have:=dval_lt (digs_dg (B:=2) (by decide) R);rwa[digs_val (by decide)]at this
    rw[Nat.pow_succ];omega
   have hc:=bCmp (b.toNat+2*R) y (by omega);have hs:=bSub (b.toNat+2*R) y (by omega);have hlo:(o.map fun b=>[D.v (encB b)]).length=p.length:=by rw[List.length_map];exact hol
   have hbl:((bits R).map fun b=>[D.v (encB b)]).length≤200000000:=by rw[List.length_map];exact hly hR
   rw[e];have hcase:(y≤b.toNat+2*R∧0≤cmpN (b.toNat+2*R) y)∨(b.toNat+2*R<y∧cmpN (b.toNat+2*R) y<0):=by
    rcases Nat.lt_trichotomy (b.toNat+2*R) y with h | h | h
    ·exact .inr ⟨h,by rw[cmpN_lt h];decide⟩
    ·exact .inl ⟨by omega,by rw[h,cmpN_eq];decide⟩
    ·exact .inl ⟨by omega,by rw[cmpN_gt h];decide⟩
   rcases hcase with ⟨h1,h2⟩ | ⟨h1,h2⟩
   ·obtain⟨f1,f2,f3⟩:=hge h1;have hs:=hs h1;have HS:=Lib.hid (And.intro f1 (And.intro f2 (And.intro hz2 f3)));clear f1 f2 f3 hge hlt hz hz' hz2 hv hd hvx hly hN hR hbn h1;generalize b.toNat+2*R=N at*;generalize cmpN N y=cc at*;refine wn ?_;((try (first | intro K ms hms hK | intro K hK));(first | apply Chain.ef | apply Chain.efD);exact rfl;exact rfl;exact Do.litR rfl rfl rfl rfl rfl rfl rfl rfl;exact rfl;exact rfl);refine wn ?_;((try (first | intro K ms hms hK | intro K hK));(first | apply Chain.ef | apply Chain.efD);exact rfl;exact rfl;exact Do.appendF (ys:=(bits R).map fun b=>[D.v (encB b)]) rfl rfl rfl rfl rfl (fun c hc=>by obtain⟨_,_,rfl⟩:=List.mem_map.1 hc;rfl) (by simp only[List.length_cons,List.length_nil];omega);exact rfl;exact rfl);refine c1 hcut ?_;refine wa ?_;((try (first | intro K ms hms hK | intro K hK));(first | apply Chain.st | apply Chain.stD);exact rfl;exact rfl;exact Do.setM true rfl rfl rfl hg2 rfl rfl rfl rfl rfl rfl;exact rfl;exact rfl);refine wa ?_;exact⟨(j,o.set j true,2*Q+1,N-y),⟨by dsimp only;omega,by dsimp only;rw[List.length_set];exact hol,HS.out.2.2.1,HS.out.2.1,HS.out.1,HS.out.2.2.2⟩,by dsimp only;omega,⟨rfl,rfl,rfl,rfl,rfl,trivial⟩,⟨rfl,trivial⟩⟩
   ·obtain⟨f1,f2⟩:=hlt h1;have HS:=Lib.hid (And.intro f1 (And.intro f2 (And.intro hz' h1)));clear f1 f2 hge hlt hz hz' hz2 hv hd hvx hly hN hR hbn h1 hs;generalize b.toNat+2*R=N at*;generalize cmpN N y=cc at*;refine wn ?_;((try (first | intro K ms hms hK | intro K hK));(first | apply Chain.ef | apply Chain.efD);exact rfl;exact rfl;exact Do.litR rfl rfl rfl rfl rfl rfl rfl rfl;exact rfl;exact rfl);refine wn ?_;((try (first | intro K ms hms hK | intro K hK));(first | apply Chain.ef | apply Chain.efD);exact rfl;exact rfl;exact Do.appendF (ys:=(bits R).map fun b=>[D.v (encB b)]) rfl rfl rfl rfl rfl (fun c hc=>by obtain⟨_,_,rfl⟩:=List.mem_map.1 hc;rfl) (by simp only[List.length_cons,List.length_nil];omega);exact rfl;exact rfl);refine c1 hcut ?_;refine wa ?_;exact⟨(j,o,2*Q,N),⟨by dsimp only;omega,hol,HS.out.2.2.1,HS.out.2.1,HS.out.1,HS.out.2.2.2⟩,by dsimp only;omega,⟨rfl,rfl,rfl,rfl,rfl,trivial⟩,⟨rfl,trivial⟩⟩
theorem bGcd(x y:Nat)(hl:(bits x).length≤200000000)(hm:(bits y).length≤200000000):Fn Tryz.prog 214 [.d (enB (bits x)),.d (enB (bits y))] [.d (enB (bits (Nat.gcd x y)))]:=by
 refine Fn.of Tryz.func214 rfl (by kernel_rfl) Tryz.ntmps214 Tryz.results214 rfl fun w0 S0=>?_;refine wa ?_;refine AC.loop (X:=Nat×Nat) (fun s=>⟨[(0,.d (enB (bits s.1))),(1,.d (enB (bits s.2)))],[]⟩) (fun s=>(bits s.1).length≤200000000∧(bits s.2).length≤200000000∧Nat.gcd s.1 s.2=Nat.gcd x y) (fun s=>s.2) (x,y) ⟨hl,hm,rfl⟩ ⟨rfl,rfl,trivial⟩ trivial ?_;intro ⟨a,b⟩ ⟨ha,hb,hg⟩;dsimp only at ha hb hg ⊢;rcases Nat.eq_zero_or_pos b with h | h
 ·subst h;rw[←hg,Nat.gcd_zero_right];have h0:(bits 0).length=0:=by rw[bits_eq_nil.2 rfl];rfl
  refine wa ?_;exact⟨.d rfl (.inl rfl),trivial⟩
 ·have hd:=qDivMod a b ha hb h;have h0:0<(bits b).length:=List.length_pos_iff.2 fun e=>by have:=bits_eq_nil.1 e;omega
  refine wa ?_;refine⟨(b,a % b),⟨hb,?_,?_⟩,Nat.mod_lt _ h,⟨rfl,rfl,trivial⟩,trivial⟩
  ·dsimp only;rw[bits_len]at hb ⊢;exact Nat.le_trans (digs_len_mono (by decide) (Nat.le_of_lt (Nat.mod_lt _ h))) hb
  ·dsimp only;rw[←hg,Nat.gcd_comm b,←Nat.gcd_rec,Nat.gcd_comm]
end Go.Proofs.YtbbpecfapohlaaaGreatDoor
