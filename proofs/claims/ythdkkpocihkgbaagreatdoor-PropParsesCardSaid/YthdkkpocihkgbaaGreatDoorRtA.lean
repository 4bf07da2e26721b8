import Derived.Test.YthdkkpocihkgbaaGreatDoorBlA
set_option maxRecDepth 100000
set_option maxHeartbeats 8000000
namespace Go.Proofs.YthdkkpocihkgbaaGreatDoor
open Go.RowKit
attribute [local irreducible] AC Do St
theorem wn{p q:Prop}(k:q)(hs:Wk q→p:=by
  intro k
  try (first | intro K ms hms hK | intro K hK)
  repeat (first
   | refine Ch.no rfl rfl ?_
   | refine Ch.iX rfl rfl ?_
   | ((first | apply Ch.go | apply Ch.ah);exact rfl;exact rfl;first
     | exact Loc.move (v:= .d _) rfl rfl
     | exact Loc.assign (v:= .d _) rfl rfl
     | exact Loc.c7 rfl rfl rfl rfl
     | exact Loc.cU rfl rfl rfl
     | exact Loc.cY rfl rfl rfl
     | exact Loc.cV rfl rfl
     | exact Loc.bh (v:= .d _) rfl rfl rfl
     | exact Loc.bk (v:= .d _) rfl rfl rfl
     | exact Loc.cz rfl rfl rfl rfl (by kernel_rfl)
     | exact Loc.cZ rfl rfl rfl
     | exact Loc.cQ rfl rfl rfl rfl
     | exact Loc.ea rfl rfl rfl rfl (by assumption) rfl
     | exact Loc.fN rfl rfl
     | exact Loc.fP rfl rfl
     | exact Loc.fM rfl rfl rfl
     | exact Loc.len rfl rfl
     | exact Loc.eb rfl rfl rfl (by omega)
     | exact Loc.eG rfl rfl rfl (by omega)
     | exact Loc.ec rfl rfl rfl (by omega)
     | exact Loc.eE rfl rfl rfl (by omega)
     | exact Loc.eP rfl rfl rfl (by omega)
     | exact Loc.eM rfl rfl rfl (by omega)
     | exact Loc.eD rfl rfl rfl (by omega)
     | exact Loc.eF rfl rfl rfl (by omega)
     | exact Loc.gn rfl rfl rfl (by omega)
     | exact Loc.gp rfl rfl rfl (by omega)
     | exact Loc.gG rfl rfl rfl (by omega)
     | exact Loc.gH rfl rfl rfl (by omega)
     | exact Loc.add rfl rfl rfl (IntWalk.i64_in _ (by omega))
     | exact Loc.sub rfl rfl rfl (IntWalk.i64_in _ (by omega))
     | exact Loc.fL rfl rfl
     | exact Loc.fJ rfl rfl
     | exact Loc.cW rfl rfl rfl
     | exact Loc.c8 rfl rfl rfl (by assumption) rfl
     | exact Loc.cB rfl rfl rfl rfl rfl (by omega) rfl
     | exact Loc.move (v:= .g _) rfl rfl
     | exact Loc.move (v:= .p _ _) rfl rfl
     | exact Loc.move (v:= .r _ _) rfl rfl
     | exact Loc.move (v:= .t _) rfl rfl
     | exact Loc.assign (v:= .g _) rfl rfl
     | exact Loc.assign (v:= .r _ _) rfl rfl
     | exact Loc.assign (v:= .p _ _) rfl rfl
     | exact Loc.extract (v:= .d _) rfl rfl rfl rfl
     | exact Loc.extract (v:= .g _) rfl rfl rfl rfl
     | exact Loc.bh (v:= .g _) rfl rfl rfl
     | exact Loc.bk (v:= .g _) rfl rfl rfl
     | exact Loc.move (v:= .un) rfl rfl
     | exact Loc.build rfl rfl rfl rfl)
   | refine Ch.eO (hK _ ?_)
   | ((first | apply Ch.st | apply Ch.aU);exact rfl;exact rfl;(first
     | exact Do.aC rfl rfl rfl rfl .g rfl rfl rfl
     | exact Do.aC rfl rfl rfl rfl .d rfl rfl rfl
     | exact Do.aC rfl rfl rfl rfl (.r rfl) rfl rfl rfl);exact rfl;exact rfl)
   | ((first | apply Ch.ef | apply Ch.bU);exact rfl;exact rfl;(first
     | exact Do.alloc rfl rfl rfl
     | exact Do.box rfl rfl rfl .g rfl
     | exact Do.box rfl rfl rfl .d rfl
     | exact Do.fI rfl rfl
     | exact Do.ck rfl rfl rfl rfl rfl rfl (by first | omega | (simp;omega))
     | exact Do.bS rfl rfl rfl rfl rfl rfl);exact rfl;exact rfl)
   | refine Ch.fK (by rw[hms];kernel_rfl) (hK _ ?_)
   | refine Ch.iY rfl rfl ?_
   | refine AC.seq ?_
   | (refine AC.mm (by decide+kernel) ?_;intro K hK)
   | (refine AC.ox (by decide+kernel) ?_;intro K hK)
   | (refine AC.qG (by kernel_rfl) (by decide+kernel) ?_;intro K ms hms hK)
   | (refine AC.pD (by kernel_rfl) (by decide+kernel) ?_;intro K ms hms hK)
   | refine AC.jg rfl ?_
   | refine AC.ji rfl ?_
   | refine AC.block ?_
   | refine AC.exit ?_
   | refine AC.ret ?_
   | refine AC.skip ?_)
  first
   | exact k.out
   | (revert K;exact k.out)
   | (revert K ms;exact k.out)):p:=hs ⟨k⟩
theorem uV(x y:Nat)(hl:(bits x).length≤500000000)(hm:(bits y).length≤500000000):Fn Tryz.prog 121 [.d (bp (bits x)),.d (bp (bits y))] [.d (bp (bits (x+y)))]:=by
 have:=Er (bits x) (bits y) hl hm;rwa[cG,cG]at this
theorem zo(x y:Nat)(hl:(bits x).length≤500000000)(hxy:y≤x):Fn Tryz.prog 176 [.d (bp (bits x)),.d (bp (bits y))] [.d (bp (bits (x-y)))]:=by
 have hlen:(bits y).length≤(bits x).length:=by rw[fp,fp];exact bN (by decide) hxy
 have hvx:=cG x;have hvy:=cG y;have hlt:=jz (bits x);generalize bits x=p at*;generalize bits y=q at*;refine Fn.of Tryz.func176 rfl (by kernel_rfl) Tryz.ntmps176 Tryz.results176 rfl fun w0 S0=>?_;refine wa ?_;refine AC.loop (X:=Nat×List Bool×Nat) (fun s=>⟨[(0,.d (bp p)),(1,.d (bp q)),(5,.r 9 s.1),(6,.d (.v (.int .i64 (s.2.2:Int)))),(11,.d (.v (.int .i64 (p.length:Int)))),(12,.d (.v (.int .i64 (s.1:Int))))],[(9,.row s.1 4 1 (s.2.1.map fun b=>[.v (fh b)]))]⟩) (fun s=>s.1≤p.length∧s.2.2≤1∧s.2.1.length=s.1∧aF s.2.1+aF (q.take s.1)=aF (p.take s.1)+2^s.1*s.2.2) (fun s=>p.length-s.1) (0,[],0) ⟨by dsimp only;omega,by dsimp only;omega,rfl,by simp[jv]⟩ ⟨rfl,rfl,rfl,rfl,rfl,rfl,trivial⟩ ⟨rfl,trivial⟩ ?_;intro ⟨k,o,c⟩ ⟨hk,hc,hol,hi⟩;dsimp only at hk hc hol hi ⊢;have hlo:(o.map fun b=>[D.v (fh b)]).length=k:=by rw[List.length_map];exact hol
 by_cases hend:k=p.length
 ·subst hend;rw[List.take_of_length_le (Nat.le_refl _),List.take_of_length_le hlen,hvx,hvy]at hi;have hbo:=jz o;rw[hol]at hbo;have hr:=zU hi hbo hxy;clear hi hbo hlt;refine wa ?_;(first | intro K ms hms hK | intro K hK);refine Ch.br 45 rfl rfl ?_;refine c1 (oD o (by omega)) ?_;refine wa ?_;rw[hr];exact⟨.d rfl (.inl rfl),trivial⟩
 have hA:=wW p k;have hB:=wW q k;have hst:∀ (z:Bool) (d:Nat),z.toNat+fF q k+c=fF p k+2*d→aF (o++[z])+aF (q.take (k+1))=aF (p.take (k+1))+2^(k+1)*d:=fun z d h=>xE hol hi h;generalize fF p k=x' at hA hst;generalize fF q k=y' at hB hst;have hol':∀ z:Bool,(o++[z]).length=k+1:=fun z=>by rw[List.length_append,hol];rfl
 have HS:=Lib.hid (And.intro hst hol');clear hst hi hol hol' hlt hvx hvy;have hc2:c=0∨c=1:=by omega
 rcases hA with ⟨a1,a2,rfl⟩ | ⟨a1,a2,rfl⟩ | ⟨a1,a2,rfl⟩<;>rcases hB with ⟨b1,b2,rfl⟩ | ⟨b1,b2,rfl⟩ | ⟨b1,b2,rfl⟩<;>rcases hc2 with rfl | rfl
 all_goals try (exfalso;omega)
 all_goals
  refine wa ?_;((try (first | intro K ms hms hK | intro K hK));(first | apply Ch.go | apply Ch.ah);exact rfl;exact rfl;exact Loc.neg rfl rfl (by decide));refine wa ?_
  first
   | exact⟨(k+1,o++[false],0),⟨by dsimp only;omega,(show (0:Nat)≤1 by decide),HS.out.2 _,HS.out.1 false 0 (by decide)⟩,by dsimp only;omega,⟨rfl,rfl,rfl,rfl,rfl,rfl,trivial⟩,⟨by dsimp only;rw[List.map_append];rfl,trivial⟩⟩
   | exact⟨(k+1,o++[true],0),⟨by dsimp only;omega,(show (0:Nat)≤1 by decide),HS.out.2 _,HS.out.1 true 0 (by decide)⟩,by dsimp only;omega,⟨rfl,rfl,rfl,rfl,rfl,rfl,trivial⟩,⟨by dsimp only;rw[List.map_append];rfl,trivial⟩⟩
   | exact⟨(k+1,o++[false],1),⟨by dsimp only;omega,(show (1:Nat)≤1 by decide),HS.out.2 _,HS.out.1 false 1 (by decide)⟩,by dsimp only;omega,⟨rfl,rfl,rfl,rfl,rfl,rfl,trivial⟩,⟨by dsimp only;rw[List.map_append];rfl,trivial⟩⟩
   | exact⟨(k+1,o++[true],1),⟨by dsimp only;omega,(show (1:Nat)≤1 by decide),HS.out.2 _,HS.out.1 true 1 (by decide)⟩,by dsimp only;omega,⟨rfl,rfl,rfl,rfl,rfl,rfl,trivial⟩,⟨by dsimp only;rw[List.map_append];rfl,trivial⟩⟩
theorem kn(u:Nat)(hu:u<18446744073709551616):Fn Tryz.prog 122 [.d (.v (.int .u64 (u:Int)))] [.d (bp (bits u))]:=by
 refine Fn.of Tryz.func122 rfl (by kernel_rfl) Tryz.ntmps122 Tryz.results122 rfl fun w0 S0=>?_;refine wa ?_;refine AC.loop (X:=Nat×List Bool×Nat) (fun s=>⟨[(0,.d (.v (.int .u64 (s.2.2:Int)))),(3,.r 4 s.1)],[(4,.row s.1 4 1 (s.2.1.map fun b=>[.v (fh b)]))]⟩) (fun s=>s.2.1.length=s.1∧s.1≤64∧s.2.2<2^(64-s.1)∧s.2.1++bits s.2.2=bits u) (fun s=>64-s.1) (0,[],u) ⟨rfl,(show (0:Nat)≤64 by decide),hu,rfl⟩ ⟨rfl,rfl,trivial⟩ ⟨rfl,trivial⟩ ?_;intro ⟨k,o,r⟩ ⟨hol,hk,hr,hi⟩;dsimp only at hol hk hr hi ⊢;have hlo:(o.map fun b=>[D.v (fh b)]).length=k:=by rw[List.length_map];exact hol
 have hr64:r<18446744073709551616:=Nat.lt_of_lt_of_le hr (Nat.pow_le_pow_right (by decide) (by omega):2^(64-k)≤2^64);by_cases h0:r=0
 ·subst h0;rw[bits_eq_nil.2 rfl,List.append_nil]at hi;rw[←hi];refine wa ?_;exact⟨.d rfl ⟨_,_,rfl⟩,trivial⟩
 ·have hk64:k<64:=by
   rcases Nat.lt_or_ge k 64 with h | h
   ·exact h
   ·have:k=64:=by omega
    subst this;simp at hr;omega
  have hp:2^(64-k)=2^(64-(k+1))*2:=by rw[←Nat.pow_succ];congr 1;omega
  have hs:bits r=decide (((r:Int) % 2)=1)::bits (r / 2):=by
   unfold bits;rw[jt (by decide) h0,List.map_cons]
   congr 1
   rcases Nat.mod_two_eq_zero_or_one r with h | h
   ·rw[h,decide_eq_false (by omega)];rfl
   ·rw[h,decide_eq_true (by omega)];rfl
  rw[hs]at hi;have hr2:r / 2<2^(64-(k+1)):=by rw[hp]at hr;omega
  have HS:=Lib.hid (And.intro hr2 hi);clear hr2 hi hr hp hs;refine wa ?_;((try (first | intro K ms hms hK | intro K hK));(first | apply Ch.go | apply Ch.ah);exact rfl;exact rfl;exact Loc.rem rfl rfl rfl (by omega) (by decide));((try (first | intro K ms hms hK | intro K hK));(first | apply Ch.go | apply Ch.ah);exact rfl;exact rfl;exact Loc.xt _ rfl rfl rfl rfl);refine wa ?_;((try (first | intro K ms hms hK | intro K hK));(first | apply Ch.go | apply Ch.ah);exact rfl;exact rfl;exact Loc.quo rfl rfl rfl (by omega) (by decide) (by simp only[IntKind.wrap,IntKind.bits,IntKind.signed,Bool.false_and];rw[if_neg (by decide)];omega));refine wa ?_;exact⟨(k+1,o++[decide (((r:Nat):Int) % 2=1)],r / 2),⟨by rw[List.length_append,hol];rfl,by dsimp only;omega,HS.out.1,by rw[List.append_assoc];exact HS.out.2⟩,by dsimp only;omega,⟨rfl,rfl,trivial⟩,⟨by dsimp only;rw[List.map_append];rfl,trivial⟩⟩
theorem wQ{x y:Nat}(h:(bits x).length<(bits y).length):cF x y= -1:=iO (o6 h)
theorem wA{x y:Nat}(h:(bits y).length<(bits x).length):cF x y=1:=jn (o6 h)
theorem Bo{x y i:Nat}(hl:(bits x).length=(bits y).length)(hi:i<(bits x).length)(hi':i<(bits y).length)(he:(bits x).drop (i+1)=(bits y).drop (i+1)):
  ((bits x)[i]=false→(bits y)[i]=true→cF x y= -1)∧((bits y)[i]=false→(bits x)[i]=true→cF x y=1):=by
 constructor
 ·intro h1 h2;have:=wh hi hi' hl he h1 h2;rw[cG,cG]at this;exact iO this
 ·intro h1 h2;have:=wh hi' hi hl.symm he.symm h1 h2;rw[cG,cG]at this;exact jn this
theorem nu{x z n:Nat}(hz:z<2^n):(bits (x*z)).length≤(bits x).length+n:=by
 refine bT ?_;have h1:=jz (bits x);rw[cG]at h1;exact bu h1 hz
theorem th(p:List Bool)(i:Nat):aF (p.take i)<2^i:=by
 have h1:=jz (p.take i);exact Nat.lt_of_lt_of_le h1 (Nat.pow_le_pow_right (by decide) (List.length_take_le _ _))
theorem BS{p:List Bool}{o:List Bool}{j Q R y:Nat}(hj:j<p.length)(h:aF (p.drop (j+1))=Q*y+R)(hR:R<y)(ho:aF o=2^(j+1)*Q)(hol:j<o.length)(hz:o.getD j false=false):
  (y≤p[j].toNat+2*R→aF (p.drop j)=(2*Q+1)*y+(p[j].toNat+2*R-y)∧aF (o.set j true)=2^j*(2*Q+1)∧p[j].toNat+2*R-y<y)∧
  (p[j].toNat+2*R<y→aF (p.drop j)=(2*Q)*y+(p[j].toNat+2*R)∧aF o=2^j*(2*Q)):=by
 rw[xG hj];have hb:p[j].toNat≤1:=by cases p[j]<;>simp
 constructor
 ·intro hge;refine⟨BL h hR hge,?_,by omega⟩;rw[zq hol (by rw[bY _ _ hol]at hz;exact hz),ho,Nat.pow_succ,Nat.mul_add,Nat.mul_assoc];simp
 ·intro hlt;exact⟨A4 h,by rw[ho,Nat.pow_succ,Nat.mul_assoc]⟩
set_option maxRecDepth 100000
set_option maxHeartbeats 8000000
theorem CT(x y:Nat)(hl:(bits x).length≤500000000):Fn Tryz.prog 175 [.d (bp (bits x)),.d (bp (bits y))] [.d (.v (.int .i64 (cF x y)))]:=by
 rcases Nat.lt_trichotomy (bits x).length (bits y).length with h | h | h
 ·rw[wQ h];refine Fn.of Tryz.func175 rfl (by kernel_rfl) Tryz.ntmps175 Tryz.results175 rfl fun w0 S0=>?_;refine wa ?_;exact⟨.d rfl (.inl rfl),trivial⟩
 ·have hT:= @Bo x y;have hI:(bits x).drop 0=(bits y).drop 0→cF x y=0:=fun e=>by
   rw[List.drop_zero,List.drop_zero]at e;rw[zR e];exact lV y
  generalize cF x y=c at*;generalize bits x=p at*;generalize bits y=q at*;refine Fn.of Tryz.func175 rfl (by kernel_rfl) Tryz.ntmps175 Tryz.results175 rfl fun w0 S0=>?_;refine wa ?_;refine AC.loop (X:=Nat) (fun k=>⟨[(0,.d (bp p)),(1,.d (bp q)),(5,.d (.v (.int .i64 ((k:Int)-1))))],[]⟩) (fun k=>k≤p.length∧p.drop k=q.drop k) (fun k=>k) p.length ⟨Nat.le_refl _,by rw[List.drop_eq_nil_of_le (Nat.le_refl _),List.drop_eq_nil_of_le (by omega)]⟩ ⟨rfl,rfl,rfl,trivial⟩ trivial ?_;intro k ⟨hk,hd⟩;cases k with
  | zero=>
    have hc:=hI hd;refine wa ?_;rw[hc];exact⟨.d rfl (.inl rfl),trivial⟩
  | succ j=>
    have e:((j+1:Nat):Int)-1=(j:Int):=by omega
    obtain⟨hT1,hT2⟩:=hT (i:=j) h (by omega) (by omega) hd;have g1:p[j]?=some p[j]:=List.getElem?_eq_getElem (by omega);have g2:q[j]?=some q[j]:=List.getElem?_eq_getElem (by omega);have hdr:p[j]=q[j]→p.drop j=q.drop j:=fun e=>by rw[List.drop_eq_getElem_cons (show j<p.length by omega),List.drop_eq_getElem_cons (show j<q.length by omega),e,hd]
    generalize p[j]=a at*;generalize q[j]=b at*;rw[e];clear hI hT;cases a<;>cases b
    ·have:=hdr rfl;refine wa ?_;exact⟨j,⟨by omega,this⟩,by omega,⟨rfl,rfl,rfl,trivial⟩,trivial⟩
    ·rw[hT1 rfl rfl];refine wa ?_;exact⟨.d rfl (.inl rfl),trivial⟩
    ·rw[hT2 rfl rfl];refine wa ?_;exact⟨.d rfl (.inl rfl),trivial⟩
    ·have:=hdr rfl;refine wa ?_;exact⟨j,⟨by omega,this⟩,by omega,⟨rfl,rfl,rfl,trivial⟩,trivial⟩
 ·rw[wA h];refine Fn.of Tryz.func175 rfl (by kernel_rfl) Tryz.ntmps175 Tryz.results175 rfl fun w0 S0=>?_;refine wa ?_;exact⟨.d rfl (.inl rfl),trivial⟩
theorem DF(p:List Bool)(s:Nat)(hl:p.length≤500000000)(hs:s≤500000000):Fn Tryz.prog 177 [.d (bp p),.d (.v (.int .i64 (s:Int)))] [.d (bp (bits (aF p*2^s)))]:=by
 have hc:=oD (List.replicate s false++p) (by simp;omega);rw[oY,pN,List.length_replicate,Nat.zero_add,Nat.mul_comm]at hc;have hrl:((List.replicate s false).map fun b=>[D.v (fh b)]).length=s:=by simp
 refine Fn.of Tryz.func177 rfl (by kernel_rfl) Tryz.ntmps177 Tryz.results177 rfl fun w0 S0=>?_;refine wa ?_;((try (first | intro K ms hms hK | intro K hK));(first | apply Ch.ef | apply Ch.bU);exact rfl;exact rfl;exact Do.xq (f:=fun b=>[D.v (fh b)]) false s s rfl rfl rfl rfl rfl rfl (Nat.le_refl _) (by omega);exact rfl;exact rfl);refine wa ?_;((try (first | intro K ms hms hK | intro K hK));(first | apply Ch.ef | apply Ch.bU);exact rfl;exact rfl;exact Do.ru (ys:=p.map fun b=>[D.v (fh b)]) rfl rfl rfl rfl rfl (fun c hc=>by obtain⟨_,_,rfl⟩:=List.mem_map.1 hc;rfl) (by rw[hrl,List.length_map];omega);exact rfl;exact rfl);rw[←List.map_append];refine c1 hc ?_;refine wa ?_;exact⟨.d rfl (.inl rfl),trivial⟩
theorem qh(l:List Nat)(hl:l.length≤1000000000):Fn Tryz.prog 167 [.d (aJ l)] [.d (aJ l)]:=by
 refine Fn.of Tryz.func167 rfl (by kernel_rfl) Tryz.ntmps167 Tryz.results167 rfl fun w0 S0=>?_;refine wa ?_;((try (first | intro K ms hms hK | intro K hK));(first | apply Ch.ef | apply Ch.bU);exact rfl;exact rfl;exact Do.append (ys:=l.map fun c=>[D.v (dz c)]) rfl rfl rfl rfl rfl (fun c hc=>by obtain⟨_,_,rfl⟩:=List.mem_map.1 hc;rfl) (by simp;omega);exact rfl;exact rfl);refine wa ?_;exact⟨.d rfl ⟨_,_,rfl⟩,trivial⟩
theorem kZ(l:List Nat)(hl:l.length≤10000000)(hd:∀ x∈l,x<4294967296):Fn Tryz.prog 119 [.d (aJ l)] [.d (bp (bits (aa 4294967296 l)))]:=by
 refine Fn.of Tryz.func119 rfl (by kernel_rfl) Tryz.ntmps119 Tryz.results119 rfl fun w0 S0=>?_;refine wa ?_;refine AC.loop (X:=Nat×List Bool×Nat) (fun s=>⟨[(3,.r 7 s.2.2),(8,.d (aJ l)),(9,.d (.v (.int .i64 (l.length:Int)))),(10,.d (.v (.int .i64 (s.1:Int))))],[(7,.row s.2.2 4 1 (s.2.1.map fun b=>[.v (fh b)]))]⟩) (fun s=>s.1≤l.length∧s.2.1.length=32*s.1∧aF s.2.1=aa 4294967296 (l.take s.1)) (fun s=>l.length-s.1) (0,[],0) ⟨Nat.zero_le _,rfl,by simp[jv]⟩ ⟨rfl,rfl,rfl,rfl,trivial⟩ ⟨rfl,trivial⟩ ?_;intro ⟨k,o,g⟩ ⟨hk,hol,hi⟩;dsimp only at hk hol hi ⊢;by_cases hend:k=l.length
 ·subst hend;rw[List.take_length]at hi;refine wa ?_;(first | intro K ms hms hK | intro K hK);refine Ch.br 27 rfl rfl ?_;refine c1 (oD o (by omega)) ?_;refine wa ?_;rw[hi];exact⟨.d rfl (.inl rfl),trivial⟩
 have hk':k<l.length:=by omega
 have hg:l[k]?=some l[k]:=List.getElem?_eq_getElem hk';have hu:=hd _ (List.getElem_mem hk');have hs:=aL (B:=4294967296) hk';generalize l[k]=u at hg hu hs;refine wa ?_;refine AC.loop (X:=Nat×List Bool×Nat×Nat) (fun s=>⟨[(3,.r 7 s.2.2.2),(8,.d (aJ l)),(9,.d (.v (.int .i64 (l.length:Int)))),(10,.d (.v (.int .i64 (k:Int)))),(5,.d (.v (.int .u32 (s.2.2.1:Int)))),(6,.d (.v (.int .i64 (s.1:Int))))],[(7,.row s.2.2.2 4 1 ((o++s.2.1).map fun b=>[.v (fh b)]))]⟩) (fun s=>s.1≤32∧s.2.1.length=s.1∧s.2.2.1<2^(32-s.1)∧aF s.2.1+2^s.1*s.2.2.1=u) (fun s=>32-s.1) (0,[],u,g) ⟨by dsimp only;omega,rfl,hu,by simp[jv]⟩ ⟨rfl,rfl,rfl,rfl,rfl,rfl,trivial⟩ ⟨by dsimp only;rw[List.append_nil];rfl,trivial⟩ ?_;intro ⟨j,o2,r,g2⟩ ⟨hj,hl2,hr,hi2⟩;dsimp only at hj hl2 hr hi2 ⊢;have hr32:r<4294967296:=Nat.lt_of_lt_of_le hr (Nat.pow_le_pow_right (by decide) (by omega):2^(32-j)≤2^32);by_cases hj2:j=32
 ·subst hj2;have hr0:r=0:=by simp at hr;exact hr
  subst hr0;have hb:aF (o++o2)=aa 4294967296 (l.take (k+1)):=by
   rw[oY,hol,hs,hi,←D4,show aF o2=u by omega]
  refine wa ?_;exact⟨(k+1,o++o2,g2),⟨hk',by dsimp only;rw[List.length_append];omega,hb⟩,by dsimp only;omega,⟨rfl,rfl,rfl,rfl,trivial⟩,⟨rfl,trivial⟩⟩
 ·have hp:2^(32-j)=2^(32-(j+1))*2:=by rw[←Nat.pow_succ];congr 1;omega
  have hr2:r / 2<2^(32-(j+1)):=by rw[hp]at hr;omega
  have hst:=z8 (x:=decide (((r:Nat):Int) % 2=1)) hi2 hl2 (by
   rcases Nat.mod_two_eq_zero_or_one r with h | h
   ·rw[h,decide_eq_false (by omega)];rfl
   ·rw[h,decide_eq_true (by omega)];rfl)
  have hle:((o++o2).map fun b=>[D.v (fh b)]).length≤400000000:=by rw[List.length_map,List.length_append];omega
  have HS:=Lib.hid (And.intro hr2 hst);clear hr2 hst hr hp hi2 hi hs hd;refine wa ?_;((try (first | intro K ms hms hK | intro K hK));(first | apply Ch.go | apply Ch.ah);exact rfl;exact rfl;exact Loc.rem rfl rfl rfl (by omega) (by decide));((try (first | intro K ms hms hK | intro K hK));(first | apply Ch.go | apply Ch.ah);exact rfl;exact rfl;exact Loc.xt _ rfl rfl rfl rfl);refine wa ?_;((try (first | intro K ms hms hK | intro K hK));(first | apply Ch.go | apply Ch.ah);exact rfl;exact rfl;exact Loc.quo rfl rfl rfl (by omega) (by decide) (by simp only[IntKind.wrap,IntKind.bits,IntKind.signed,Bool.false_and];rw[if_neg (by decide)];omega));refine wa ?_;exact⟨(j+1,o2++[decide (((r:Nat):Int) % 2=1)],r / 2,g2+1),⟨by dsimp only;omega,by rw[List.length_append,hl2];rfl,HS.out.1,HS.out.2⟩,by dsimp only;omega,⟨rfl,rfl,rfl,rfl,rfl,rfl,trivial⟩,⟨by dsimp only;simp only[List.map_append,List.append_assoc];rfl,trivial⟩⟩
theorem jD(x y:Nat)(hl:(bits x).length+(bits y).length≤400000000):Fn Tryz.prog 124 [.d (bp (bits x)),.d (bp (bits y))] [.d (bp (bits (x*y)))]:=by
 have hvy:=cG y;have hsh:∀ k,k<(bits y).length→Fn Tryz.prog 177 [.d (bp (bits x)),.d (.v (.int .i64 (k:Int)))] [.d (bp (bits (x*2^k)))]:=fun k hk=>by
  have:=DF (bits x) k (by omega) (by omega);rwa[cG]at this
 have hl1:∀ {z k:Nat},z<2^k→k≤(bits y).length→(bits (x*z)).length≤400000000:=fun hz hk=>by
  have:=nu (x:=x) hz;omega
 generalize bits y=q at*;have hxl:(bits x).length≤400000000:=by omega
 refine Fn.of Tryz.func124 rfl (by kernel_rfl) Tryz.ntmps124 Tryz.results124 rfl fun w0 S0=>?_;refine wa ?_;refine AC.br 5 rfl rfl ?_;refine AC.loop (X:=Nat) (fun k=>⟨[(0,.d (bp (bits x))),(1,.d (bp q)),(5,.d (bp (bits (x*aF (q.take k))))),(9,.d (.v (.int .i64 (q.length:Int)))),(10,.d (.v (.int .i64 (k:Int))))],[]⟩) (fun k=>k≤q.length) (fun k=>q.length-k) 0 (Nat.zero_le _) ⟨rfl,rfl,by rw[List.take_zero,jv,Nat.mul_zero,bits_eq_nil.2 rfl];rfl,rfl,rfl,trivial⟩ trivial ?_;intro k hk;by_cases hend:k=q.length
 ·subst hend;rw[List.take_length,hvy];refine wa ?_;exact⟨.d rfl (.inl rfl),trivial⟩
 have hk':k<q.length:=by omega
 have hg:q[k]?=some q[k]:=List.getElem?_eq_getElem hk';have hs:=jr hk';have hb1:=th q k;generalize q[k]=b at hg hs;cases b with
 | false=>
   rw[Bool.toNat_false,Nat.mul_zero,Nat.add_zero]at hs;refine wa ?_;exact⟨k+1,hk',by omega,⟨rfl,rfl,by rw[hs];rfl,rfl,rfl,trivial⟩,trivial⟩
 | true=>
   rw[Bool.toNat_true,Nat.mul_one]at hs;have h1:=hsh k hk';have h2:=uV (x*aF (q.take k)) (x*2^k) (by have:=hl1 hb1 hk;omega) (by have:=hl1 (z:=2^k) (k:=k+1) (by rw[Nat.pow_succ];have:=Nat.pow_pos (n:=k) (show 0<2 by decide);omega) hk';omega);rw[←Nat.mul_add,←hs]at h2;generalize aF (q.take k)=V at*;clear hl1 hsh;refine wa ?_;exact⟨k+1,hk',by omega,⟨rfl,rfl,rfl,rfl,rfl,trivial⟩,trivial⟩
theorem rh(x y:Nat)(hl:(bits x).length≤200000000)(hm:(bits y).length≤200000000)(hy:0<y):Fn Tryz.prog 174 [.d (bp (bits x)),.d (bp (bits y))] [.d (bp (bits (x / y))),.d (bp (bits (x % y)))]:=by
 have hvx:=cG x;have hly:∀ {r:Nat},r<y→(bits r).length≤200000000:=fun h=>by rw[fp]at hm ⊢;exact Nat.le_trans (bN (by decide) (Nat.le_of_lt h)) hm
 generalize bits x=p at*;have hrl:((List.replicate p.length false).map fun b=>[D.v (fh b)]).length=p.length:=by simp
 refine Fn.of Tryz.func174 rfl (by kernel_rfl) Tryz.ntmps174 Tryz.results174 rfl fun w0 S0=>?_;refine wa ?_;((try (first | intro K ms hms hK | intro K hK));(first | apply Ch.ef | apply Ch.bU);exact rfl;exact rfl;exact Do.xq (f:=fun b=>[D.v (fh b)]) false p.length p.length rfl rfl rfl rfl rfl rfl (Nat.le_refl _) (by omega);exact rfl;exact rfl);refine wa ?_;refine AC.br 7 rfl rfl ?_;refine AC.loop (X:=Nat×List Bool×Nat×Nat) (fun s=>⟨[(0,.d (bp p)),(1,.d (bp (bits y))),(6,.r 11 0),(7,.d (bp (bits s.2.2.2))),(8,.d (.v (.int .i64 ((s.1:Int)-1))))],[(11,.row 0 4 1 (s.2.1.map fun b=>[.v (fh b)]))]⟩) (fun s=>s.1≤p.length∧s.2.1.length=p.length∧(∀j,j<s.1→s.2.1.getD j false=false)∧aF s.2.1=2^s.1*s.2.2.1∧aF (p.drop s.1)=s.2.2.1*y+s.2.2.2∧s.2.2.2<y) (fun s=>s.1) (p.length,List.replicate p.length false,0,0) ⟨Nat.le_refl _,by simp,fun j hj=>by rw[List.getD_eq_getElem?_getD,List.getElem?_replicate];split<;>rfl,by dsimp only;rw[pN];omega,by dsimp only;rw[List.drop_length,jv];omega,hy⟩ ⟨rfl,rfl,rfl,by dsimp only;rw[bits_eq_nil.2 rfl];rfl,rfl,trivial⟩ ⟨rfl,trivial⟩ ?_;intro ⟨k,o,Q,R⟩ ⟨hk,hol,hz,hv,hd,hR⟩;dsimp only at hk hol hz hv hd hR ⊢;cases k with
 | zero=>
   rw[List.drop_zero,hvx]at hd;obtain⟨e1,e2⟩:=mE hd hR;rw[←e1,←e2];have hc:=oD o (by omega);rw[hv,Nat.pow_zero,Nat.one_mul]at hc;refine wa ?_;(first | intro K ms hms hK | intro K hK);refine Ch.br 38 rfl rfl ?_;refine c1 hc ?_;refine wa ?_;exact⟨.d rfl (.inl rfl),.d rfl (.inl rfl),trivial⟩
 | succ j=>
   have hj:j<p.length:=by omega
   have e:((j+1:Nat):Int)-1=(j:Int):=by omega
   have g1:p[j]?=some p[j]:=List.getElem?_eq_getElem hj;have hg2:o[j]?=some false:=by
    have:=hz j (by omega);rw[List.getD_eq_getElem?_getD,List.getElem?_eq_getElem (by omega)]at this;rw[List.getElem?_eq_getElem (by omega)];exact congrArg some this
   obtain⟨hge,hlt⟩:=BS hj hd hR hv (by omega) (hz j (by omega));have hz':∀ i,i<j→o.getD i false=false:=fun i hi=>hz i (by omega);have hz2:∀ i,i<j→(o.set j true).getD i false=false:=fun i hi=>by
    rw[List.getD_eq_getElem?_getD,List.getElem?_set_ne (by omega),←List.getD_eq_getElem?_getD];exact hz' i hi
   have hcut:=oD (p[j]::bits R) (by have:=hly hR;simp;omega);rw[rJ,cG]at hcut;generalize p[j]=b at*;have hbn:b.toNat≤1:=by cases b<;>simp
   have hN:(bits (b.toNat+2*R)).length≤200000001:=by
    have h1:=nu (x:=R) (z:=2) (n:=2) (by decide);have h2:=hly hR;refine Nat.le_trans ?_ (Nat.succ_le_succ h2);rw[fp,fp];refine gP (by decide) ?_;have h3:R<2^(bJ 2 R).length:=by have:=cg (kz (B:=2) (by decide) R);rwa[et (by decide)]at this
    rw[Nat.pow_succ];omega
   have hc:=CT (b.toNat+2*R) y (by omega);have hs:=zo (b.toNat+2*R) y (by omega);have hlo:(o.map fun b=>[D.v (fh b)]).length=p.length:=by rw[List.length_map];exact hol
   have hbl:((bits R).map fun b=>[D.v (fh b)]).length≤200000000:=by rw[List.length_map];exact hly hR
   rw[e];have hcase:(y≤b.toNat+2*R∧0≤cF (b.toNat+2*R) y)∨(b.toNat+2*R<y∧cF (b.toNat+2*R) y<0):=by
    rcases Nat.lt_trichotomy (b.toNat+2*R) y with h | h | h
    ·exact .inr ⟨h,by rw[iO h];decide⟩
    ·exact .inl ⟨by omega,by rw[h,lV];decide⟩
    ·exact .inl ⟨by omega,by rw[jn h];decide⟩
   rcases hcase with ⟨h1,h2⟩ | ⟨h1,h2⟩
   ·obtain⟨f1,f2,f3⟩:=hge h1;have hs:=hs h1;have HS:=Lib.hid (And.intro f1 (And.intro f2 (And.intro hz2 f3)));clear f1 f2 f3 hge hlt hz hz' hz2 hv hd hvx hly hN hR hbn h1;generalize b.toNat+2*R=N at*;generalize cF N y=cc at*;refine wn ?_;((try (first | intro K ms hms hK | intro K hK));(first | apply Ch.ef | apply Ch.bU);exact rfl;exact rfl;exact Do.rq rfl rfl rfl rfl rfl rfl rfl rfl;exact rfl;exact rfl);refine wn ?_;((try (first | intro K ms hms hK | intro K hK));(first | apply Ch.ef | apply Ch.bU);exact rfl;exact rfl;exact Do.ru (ys:=(bits R).map fun b=>[D.v (fh b)]) rfl rfl rfl rfl rfl (fun c hc=>by obtain⟨_,_,rfl⟩:=List.mem_map.1 hc;rfl) (by simp only[List.length_cons,List.length_nil];omega);exact rfl;exact rfl);refine c1 hcut ?_;refine wa ?_;((try (first | intro K ms hms hK | intro K hK));(first | apply Ch.st | apply Ch.aU);exact rfl;exact rfl;exact Do.Ai true rfl rfl rfl hg2 rfl rfl rfl rfl rfl rfl;exact rfl;exact rfl);refine wa ?_;exact⟨(j,o.set j true,2*Q+1,N-y),⟨by dsimp only;omega,by dsimp only;rw[List.length_set];exact hol,HS.out.2.2.1,HS.out.2.1,HS.out.1,HS.out.2.2.2⟩,by dsimp only;omega,⟨rfl,rfl,rfl,rfl,rfl,trivial⟩,⟨rfl,trivial⟩⟩
   ·obtain⟨f1,f2⟩:=hlt h1;have HS:=Lib.hid (And.intro f1 (And.intro f2 (And.intro hz' h1)));clear f1 f2 hge hlt hz hz' hz2 hv hd hvx hly hN hR hbn h1 hs;generalize b.toNat+2*R=N at*;generalize cF N y=cc at*;refine wn ?_;((try (first | intro K ms hms hK | intro K hK));(first | apply Ch.ef | apply Ch.bU);exact rfl;exact rfl;exact Do.rq rfl rfl rfl rfl rfl rfl rfl rfl;exact rfl;exact rfl);refine wn ?_;((try (first | intro K ms hms hK | intro K hK));(first | apply Ch.ef | apply Ch.bU);exact rfl;exact rfl;exact Do.ru (ys:=(bits R).map fun b=>[D.v (fh b)]) rfl rfl rfl rfl rfl (fun c hc=>by obtain⟨_,_,rfl⟩:=List.mem_map.1 hc;rfl) (by simp only[List.length_cons,List.length_nil];omega);exact rfl;exact rfl);refine c1 hcut ?_;refine wa ?_;exact⟨(j,o,2*Q,N),⟨by dsimp only;omega,hol,HS.out.2.2.1,HS.out.2.1,HS.out.1,HS.out.2.2.2⟩,by dsimp only;omega,⟨rfl,rfl,rfl,rfl,rfl,trivial⟩,⟨rfl,trivial⟩⟩
theorem Fu(x y:Nat)(hl:(bits x).length≤200000000)(hm:(bits y).length≤200000000):Fn Tryz.prog 173 [.d (bp (bits x)),.d (bp (bits y))] [.d (bp (bits (Nat.gcd x y)))]:=by
 refine Fn.of Tryz.func173 rfl (by kernel_rfl) Tryz.ntmps173 Tryz.results173 rfl fun w0 S0=>?_;refine wa ?_;refine AC.loop (X:=Nat×Nat) (fun s=>⟨[(0,.d (bp (bits s.1))),(1,.d (bp (bits s.2)))],[]⟩) (fun s=>(bits s.1).length≤200000000∧(bits s.2).length≤200000000∧Nat.gcd s.1 s.2=Nat.gcd x y) (fun s=>s.2) (x,y) ⟨hl,hm,rfl⟩ ⟨rfl,rfl,trivial⟩ trivial ?_;intro ⟨a,b⟩ ⟨ha,hb,hg⟩;dsimp only at ha hb hg ⊢;rcases Nat.eq_zero_or_pos b with h | h
 ·subst h;rw[←hg,Nat.gcd_zero_right];have h0:(bits 0).length=0:=by rw[bits_eq_nil.2 rfl];rfl
  refine wa ?_;exact⟨.d rfl (.inl rfl),trivial⟩
 ·have hd:=rh a b ha hb h;have h0:0<(bits b).length:=List.length_pos_iff.2 fun e=>by have:=bits_eq_nil.1 e;omega
  refine wa ?_;refine⟨(b,a % b),⟨hb,?_,?_⟩,Nat.mod_lt _ h,⟨rfl,rfl,trivial⟩,trivial⟩
  ·dsimp only;rw[fp]at hb ⊢;exact Nat.le_trans (bN (by decide) (Nat.le_of_lt (Nat.mod_lt _ h))) hb
  ·dsimp only;rw[←hg,Nat.gcd_comm b,←Nat.gcd_rec,Nat.gcd_comm]
end Go.Proofs.YthdkkpocihkgbaaGreatDoor
namespace Go.Proofs.YthdkkpocihkgbaaGreatDoor
open Go.RowKit
attribute [local irreducible] AC Do St
set_option maxRecDepth 100000
set_option maxHeartbeats 4000000
theorem pQ{q:Rat}{nb:Bool}{x:Nat}(h:decide (q.num<0)=nb)(hx:q.num.natAbs=x):q.num=bH nb x:=by subst h hx;exact(vI q.num).symm
theorem lO{a b:Rat}{na nb:Bool}{x y d e:Nat}(h1:decide (a.num<0)=na)(h2:a.num.natAbs=x)(h3:a.den=d)(h4:decide (b.num<0)=nb)(h5:b.num.natAbs=y)(h6:b.den=e):
  a+b=mkRat (bH (cM na (x*e) nb (y*d)).1 (cM na (x*e) nb (y*d)).2) (d*e):=by
 rw[BD,rG,rG,←pQ h1 h2,←pQ h4 h5,nD,h3,h6]
theorem lK{a b:Rat}{na nb:Bool}{x y d e:Nat}(h1:decide (a.num<0)=na)(h2:a.num.natAbs=x)(h3:a.den=d)(h4:decide (b.num<0)=nb)(h5:b.num.natAbs=y)(h6:b.den=e):
  a*b=mkRat (bH (na != nb) (x*y)) (d*e):=by
 rw[A1,←pQ h1 h2,←pQ h4 h5,oe,h3,h6]
theorem qu{l:List Nat}(hd:lh l){n:Nat}(hn:n≤l.length)(hv:aa 4294967296 (l.take n)=aa 4294967296 l)(hz:n=0∨l.getD (n-1) 0≠0):ae (aa 4294967296 l)=l.take n:=nR (by decide) hd hn hv hz
theorem CP(l:List Nat)(hd:lh l)(hb:l.length≤1000000000):Fn Tryz.prog 207 [.d (aJ l)] [.d (aJ (ae (aa 4294967296 l)))]:=by
 refine Fn.of Tryz.func207 rfl (by kernel_rfl) Tryz.ntmps207 Tryz.results207 rfl fun w0 S0=>?_;refine wa ?_;refine AC.loop (X:=Nat) (fun n=>⟨[(0,.d (aJ (l.take n)))],[]⟩) (fun n=>n≤l.length∧aa 4294967296 (l.take n)=aa 4294967296 l) (fun n=>n) l.length ⟨Nat.le_refl _,by rw[List.take_length]⟩ ⟨by rw[List.take_length];rfl,trivial⟩ trivial ?_;intro n ⟨hn,hv⟩;have hl:(l.take n).length=n:=by rw[List.length_take,Nat.min_eq_left hn]
 cases n with
 | zero=>
   have h0:=qu hd (Nat.zero_le _) hv (.inl rfl);refine wa ?_;rw[h0];exact⟨.d rfl (.inl rfl),trivial⟩
 | succ m=>
   have hg:(l.take (m+1))[m]?=some l[m]:=by rw[List.getElem?_take_of_lt (by omega)];exact List.getElem?_eq_getElem (by omega)
   have e:((l.take (m+1)).length:Int)-1=(m:Int):=by omega
   have e2:=bY l 0 (i:=m) (by omega);generalize l[m]=b at hg e2;by_cases hb:b=0
   ·subst hb;have hv2:=(lY (B:=4294967296) (n:=m+1) (by omega) e2).trans hv;have ht:(l.take (m+1)).take m=l.take m:=by rw[List.take_take,Nat.min_eq_left (by omega)]
    refine wa ?_;rw[e];refine wa ?_;rw[e];((try (first | intro K ms hms hK | intro K hK));(first | apply Ch.go | apply Ch.ah);exact rfl;exact rfl;exact Loc.sO m rfl rfl rfl rfl (by omega));refine wa ?_;exact⟨m,⟨by omega,hv2⟩,by omega,⟨by rw[ht];rfl,trivial⟩,trivial⟩
   ·have h0:=qu hd hn hv (.inr (by rw[Nat.add_sub_cancel,e2];exact hb));refine wa ?_;rw[e];refine wa ?_;rw[h0];exact⟨.d rfl (.inl rfl),trivial⟩
theorem FL(t:Nat)(h0:0<t)(h1:t<4294967296):Fn Tryz.prog 242 [.d (.v (.int .u32 (t:Int)))] [.d (.v (.int .i64 ((32-Lib.bitLen t:Nat):Int)))]:=
 ⟨⟨_,Tryz.func242,by kernel_rfl,by kernel_rfl⟩,fun S w vs hS hv=>by
   obtain⟨v,rfl,ha⟩:=hv.one;have e1:v= .int .u32 (t:Int):=by cases ha;rfl
   subst e1;refine(yz t w h0 h1).mono ?_;rintro e w' ⟨rfl,rfl⟩;exact⟨_,rfl,Below.refl _ _,RD.v rfl⟩⟩
theorem Eh{l:List Nat}(hd:lh l)(h0:0<aa 4294967296 l)(hl:l.length≤100000000):∃ b:Int,0<b∧Fn Tryz.prog 208 [.d (aJ l)] [.d (.v (.int .i64 b))]:=by
 have hc:=CP l hd (by omega);have hpl:(ae (aa 4294967296 l)).length≤l.length:=(bM (B:=4294967296) (by decide) hd).2;have hnr:=lD (aa 4294967296 l);have hdg:=cv (aa 4294967296 l);have hne:ae (aa 4294967296 l)≠[]:=fun e=>by have:=limbs_eq_nil.1 e;omega
 generalize ae (aa 4294967296 l)=L at hc hpl hnr hdg hne;have hp:0<L.length:=List.length_pos_iff.2 hne;have hg:L[L.length-1]?=some L[L.length-1]:=List.getElem?_eq_getElem (by omega);have ht:L[L.length-1]≠0:=fun e=>hnr (by rw[List.getLast?_eq_getElem?,hg,e]);have ht2:=hdg _ (List.getElem_mem (show L.length-1<L.length by omega));generalize L[L.length-1]=t at hg ht ht2;have hz:=FL t (by omega) ht2;have hb:=nh (by omega) ht2;refine⟨32*(L.length:Int)-((32-Lib.bitLen t:Nat):Int),by omega,?_⟩;have e:(L.length:Int)-1=((L.length-1:Nat):Int):=by omega
 generalize hk:L.length-1=k at hg e;have hs:32-Lib.bitLen t≤32:=by omega
 generalize (32-Lib.bitLen t)=s at hz hs;refine Fn.of Tryz.func208 rfl (by kernel_rfl) Tryz.ntmps208 Tryz.results208 rfl fun w0 S0=>?_;refine wa ?_;rw[e];refine wa ?_;exact⟨.d rfl (.inl rfl),trivial⟩
theorem CG:Fn Tryz.prog 211 [] [.d (aJ [1])]:=by
 refine Fn.of Tryz.func211 rfl (by kernel_rfl) Tryz.ntmps211 Tryz.results211 rfl fun w0 S0=>?_;refine wa ?_;exact⟨.d rfl (.inl rfl),trivial⟩
theorem ny(p:Rat):Fn Tryz.prog 170 [.g (aN p)] [.d (aJ (ae p.den))]:=by
 have h1:=CG;unfold aN;by_cases h:p.den=1
 ·have e:iG p.den=[]:=if_pos h;have hl:([]:List Nat).length=0:=rfl;rw[e,h,lu];refine Fn.of Tryz.func170 rfl (by kernel_rfl) Tryz.ntmps170 Tryz.results170 rfl fun w0 S0=>?_;refine wa ?_;exact⟨.d rfl (.inl rfl),trivial⟩
 ·have e:iG p.den=ae p.den:=if_neg h;have hl:(ae p.den).length≠0:=fun e=>absurd (limbs_eq_nil.1 (List.eq_nil_of_length_eq_zero e)) p.den_nz;rw[e];refine Fn.of Tryz.func170 rfl (by kernel_rfl) Tryz.ntmps170 Tryz.results170 rfl fun w0 S0=>?_;refine wa ?_;exact⟨.d rfl (.inl rfl),trivial⟩
