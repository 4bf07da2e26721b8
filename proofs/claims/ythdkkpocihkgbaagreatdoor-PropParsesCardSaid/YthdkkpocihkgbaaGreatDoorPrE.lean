import Derived.Test.YthdkkpocihkgbaaGreatDoorTy
set_option maxRecDepth 100000
set_option maxHeartbeats 4000000
namespace Go.Proofs.YthdkkpocihkgbaaGreatDoor
open Go.RowKit
attribute [local irreducible] AC Do St
inductive ST where
 | mk (b:Bool) (w:List UInt8) (l:List ST)
def ST.b:ST→Bool
 | .mk b _ _=>b
def ST.w:ST→List UInt8
 | .mk _ w _=>w
def ST.l:ST→List ST
 | .mk _ _ l=>l
mutual
def iL:ST→List (List D)
 | .mk _ _ l=>qz l
def qz:List ST→List (List D)
 | []=>[]
 | f::r=>[.v (.bool f.b),.v (.string (tx f.w)),.l (iL f)]::qz r
end
def aq(f:ST):List D:=[.v (.bool f.b),.v (.string (tx f.w)),.l (iL f)]
theorem fR:∀ s:List ST,qz s=s.map aq
 | []=>rfl
 | f::r=>by rw[qz,fR r];rfl
theorem bE(b:Bool)(w:List UInt8)(l:List ST):aq (.mk b w l)=[.v (.bool b),.v (.string (tx w)),.l (l.map aq)]:=by
 unfold aq;rw[iL,fR];rfl
noncomputable def vP (l:List ST):Nat:=SizeOf.sizeOf l
theorem uj{b:Bool}{w:List UInt8}{l s:List ST}(h:ST.mk b w l∈s):vP l<vP s:=by
 have:=List.sizeOf_lt_of_mem h;unfold vP;simp only[ST.mk.sizeOf_spec]at this;omega
mutual
def qp:ST→Prop
 | .mk _ w l=>w.length≤9223372036854775807∧l.length≤9223372036854775807∧iF l
def iF:List ST→Prop
 | []=>True
 | f::r=>qp f∧iF r
end
theorem kN:∀ {s:List ST},iF s→∀ g∈s,qp g
 | [],_,g,hg=>nomatch hg
 | f::r,h,g,hg=>by
   rw[iF]at h;rcases List.mem_cons.1 hg with rfl | hg
   ·exact h.1
   ·exact kN h.2 g hg
mutual
def kI:ST→Int→Nat→Int×Bool
 | .mk b _ l,n,d=>if b=true then(n,true)else ga l n (d+1)
def ga:List ST→Int→Nat→Int×Bool
 | [],n,_=>(n,true)
 | s::r,n,d=>if 100000<n+1∨(s.b=false∧d=200)then(n+1,false)else if (kI s (n+1) d).2=true then ga r (kI s (n+1) d).1 d else((kI s (n+1) d).1,false)
end
theorem Ej(w:List UInt8)(l:List ST)(n:Int)(d:Nat):kI (.mk false w l) n d=ga l n (d+1):=by
 rw[kI];exact if_neg (by decide)
theorem EA(w:List UInt8)(l:List ST)(n:Int)(d:Nat):kI (.mk true w l) n d=(n,true):=by
 rw[kI];exact if_pos rfl
mutual
theorem Br:∀ (f:ST) (n:Int) (d:Nat),0≤n→n≤100000→0≤(kI f n d).1∧(kI f n d).1≤100001∧((kI f n d).2=true→(kI f n d).1≤100000)
 | .mk b w l,n,d,h0,h1=>by
   rw[kI];split
   ·dsimp only;omega
   ·exact px l n (d+1) h0 h1
theorem px:∀ (s:List ST) (n:Int) (d:Nat),0≤n→n≤100000→0≤(ga s n d).1∧(ga s n d).1≤100001∧((ga s n d).2=true→(ga s n d).1≤100000)
 | [],n,d,h0,h1=>by rw[ga];dsimp only;omega
 | f::r,n,d,h0,h1=>by
   rw[ga];split
   ·refine⟨by dsimp only;omega,by dsimp only;omega,fun h=>nomatch h⟩
   ·rename_i h2;have h3:n+1≤100000:=by
     have:¬ 100000<n+1:=fun h=>h2 (.inl h);omega
    have h4:=Br f (n+1) d (by omega) h3;split
    ·rename_i h5;exact px r _ d h4.1 (h4.2.2 h5)
    ·exact⟨h4.1,h4.2.1,fun h=>nomatch h⟩
end
theorem BY:∀ (m:Nat) (s:List ST),vP s<m→s.length≤9223372036854775807→iF s→∀ (n:Int) (d:Nat),0≤n→n≤100000→d≤200→Fn Tryz.prog 191 [.d (.l (s.map aq)),.d (.v (.int .i64 n)),.d (.v (.int .i64 (d:Int)))] [.d (.v (.int .i64 (ga s n d).1)),.d (.v (.bool (ga s n d).2))]:=by
 intro m
 induction m with
 | zero=>intro s h;omega
 | succ m ih=>
 intro s hm hsl hok n d h0 h1 hd;have hsg:=kN hok;obtain⟨R,hR⟩:∃ R,ga s n d=R:=⟨_,rfl⟩
 rw[hR];refine Fn.of Tryz.func191 rfl (by kernel_rfl) Tryz.ntmps191 Tryz.results191 rfl fun w0 S0=>?_;refine wk ?_;refine AC.loop (X:=Nat×Int) (fun x=>⟨[(1,.d (.v (.int .i64 x.2))),(2,.d (.v (.int .i64 (d:Int)))),(11,.d (.l (s.map aq))),(12,.d (.v (.int .i64 (s.length:Int)))),(13,.d (.v (.int .i64 (x.1:Int))))],[]⟩) (fun x=>x.1≤s.length∧0≤x.2∧x.2≤100000∧ga (s.drop x.1) x.2 d=R) (fun x=>s.length-x.1) (0,n) ⟨Nat.zero_le _,h0,h1,hR⟩ ⟨rfl,rfl,rfl,rfl,rfl,trivial⟩ trivial ?_;intro ⟨i,c⟩ ⟨hi,hc0,hc1,hgo⟩;dsimp only at hi hc0 hc1 hgo ⊢;refine wk ?_;refine s1 (fun g1=>?_) (fun g1=>?_)
 ·have hi1:i<s.length:=by omega
  have hx:s[i]?=some s[i]:=List.getElem?_eq_getElem hi1;rw[List.drop_eq_getElem_cons hi1,ga]at hgo;have hgm:=List.getElem_mem hi1;generalize s[i]=g at hx hgm hgo;have ho:=hsg _ hgm;obtain⟨b,w,l⟩:=g;have hs:=uj hgm;rw[qp]at ho;obtain⟨_,ho1,ho2⟩:=ho;have hgo:(if 100000<c+1∨(b=false∧d=200)then(c+1,false)else if (kI (.mk b w l) (c+1) d).2=true then ga (s.drop (i+1)) (kI (.mk b w l) (c+1) d).1 d else((kI (.mk b w l) (c+1) d).1,false))=R:=hgo;by_cases g2:100000<c+1
  ·rw[if_pos (.inl g2)]at hgo;subst hgo;refine wk ?_;exact⟨.d rfl (.inl rfl),.d rfl (.inl rfl),trivial⟩
  cases b with
  | true=>
    rw[if_neg (by rintro (h | ⟨h,_⟩);exact g2 h;cases h),EA]at hgo;dsimp only at hgo;rw[if_pos rfl]at hgo;refine wk ?_;exact⟨(i+1,c+1),⟨hi1,by dsimp only;omega,by dsimp only;omega,hgo⟩,by dsimp only;omega,⟨rfl,rfl,rfl,rfl,rfl,trivial⟩,trivial⟩
  | false=>
    by_cases g3:d=200
    ·rw[if_pos (.inr ⟨rfl,g3⟩)]at hgo;subst hgo;refine wk ?_;exact⟨.d rfl (.inl rfl),.d rfl (.inl rfl),trivial⟩
    rw[if_neg (by rintro (h | ⟨_,h⟩);exact g2 h;exact g3 h),Ej]at hgo;have hf:=ih l (by omega) ho1 ho2 (c+1) (d+1) (by omega) (by omega) (by omega);have hb:=px l (c+1) (d+1) (by omega) (by omega);rw[←fR,show ((d+1:Nat):Int)=(d:Int)+1 from by omega]at hf;generalize ga l (c+1) (d+1)=T at hf hb hgo;obtain⟨c2,v⟩:=T;dsimp only at hf hb hgo;cases v with
    | true=>
      rw[if_pos rfl]at hgo;refine wk ?_;refine c1 hf ?_;refine wk ?_;exact⟨(i+1,c2),⟨hi1,hb.1,hb.2.2 rfl,hgo⟩,by dsimp only;omega,⟨rfl,rfl,rfl,rfl,rfl,trivial⟩,trivial⟩
    | false=>
      rw[if_neg (by decide)]at hgo;subst hgo;refine wk ?_;refine c1 hf ?_;refine wk ?_;exact⟨.d rfl (.inl rfl),.d rfl (.inl rfl),trivial⟩
 ·rw[List.drop_of_length_le (by omega),ga]at hgo;subst hgo;refine wk ?_;exact⟨.d rfl (.inl rfl),.d rfl (.inl rfl),trivial⟩
def au(c:UInt8):Bool:=decide (32<c.toNat)&&(decide (c.toNat<127)&&(!decide (c.toNat=40)&&(!decide (c.toNat=41)&&!decide (c.toNat=59))))
theorem yk(c:UInt8):Fn Tryz.prog 200 [.d (.v (.int .u8 (c.toNat:Int)))] [.d (.v (.bool (au c)))]:=by
 obtain⟨R,hR⟩:∃ R,au c=R:=⟨_,rfl⟩
 rw[hR];unfold au at hR;have hc:=UInt8.toNat_lt c;by_cases h1:32<c.toNat
 rotate_left
 ·rw[decide_eq_false h1,Bool.false_and]at hR;subst hR;refine Fn.of Tryz.func200 rfl (by kernel_rfl) Tryz.ntmps200 Tryz.results200 rfl fun w0 S0=>?_;refine wk ?_;exact⟨.d rfl (.inl rfl),trivial⟩
 rw[decide_eq_true h1,Bool.true_and]at hR;by_cases h2:c.toNat<127
 rotate_left
 ·rw[decide_eq_false h2,Bool.false_and]at hR;subst hR;refine Fn.of Tryz.func200 rfl (by kernel_rfl) Tryz.ntmps200 Tryz.results200 rfl fun w0 S0=>?_;refine wk ?_;exact⟨.d rfl (.inl rfl),trivial⟩
 rw[decide_eq_true h2,Bool.true_and]at hR;by_cases h3:c.toNat=40
 ·rw[decide_eq_true h3,Bool.not_true,Bool.false_and]at hR;subst hR;refine Fn.of Tryz.func200 rfl (by kernel_rfl) Tryz.ntmps200 Tryz.results200 rfl fun w0 S0=>?_;refine wk ?_;exact⟨.d rfl (.inl rfl),trivial⟩
 rw[decide_eq_false h3,Bool.not_false,Bool.true_and]at hR;by_cases h4:c.toNat=41
 ·rw[decide_eq_true h4,Bool.not_true,Bool.false_and]at hR;subst hR;refine Fn.of Tryz.func200 rfl (by kernel_rfl) Tryz.ntmps200 Tryz.results200 rfl fun w0 S0=>?_;refine wk ?_;exact⟨.d rfl (.inl rfl),trivial⟩
 rw[decide_eq_false h4,Bool.not_false,Bool.true_and]at hR;by_cases h5:c.toNat=59
 ·rw[decide_eq_true h5,Bool.not_true]at hR;subst hR;refine Fn.of Tryz.func200 rfl (by kernel_rfl) Tryz.ntmps200 Tryz.results200 rfl fun w0 S0=>?_;refine wk ?_;exact⟨.d rfl (.inl rfl),trivial⟩
 rw[decide_eq_false h5,Bool.not_false]at hR;subst hR;refine Fn.of Tryz.func200 rfl (by kernel_rfl) Tryz.ntmps200 Tryz.results200 rfl fun w0 S0=>?_;refine wk ?_;exact⟨.d rfl (.inl rfl),trivial⟩
mutual
def xO:ST→Bool
 | .mk b w l=>if b=true then !w.isEmpty&&w.all au else jl l
def jl:List ST→Bool
 | []=>true
 | f::r=>xO f&&jl r
end
theorem DS(w:List UInt8)(l:List ST):xO (.mk false w l)=jl l:=by
 rw[xO];exact if_neg (by decide)
theorem EC(w:List UInt8)(l:List ST):xO (.mk true w l)=(!w.isEmpty&&w.all au):=by
 rw[xO];exact if_pos rfl
theorem Fj:((tx []).toList==(⟨#[]⟩:ByteArray).toList)=true:=by rw[cJ,show (⟨#[]⟩:ByteArray).toList=[]from cJ []];rfl
theorem Fi{l:List UInt8}(h:l≠[]):((tx l).toList==(⟨#[]⟩:ByteArray).toList)=false:=by
 rw[cJ,show (⟨#[]⟩:ByteArray).toList=[]from cJ []];simpa using h
theorem BM:∀ (m:Nat) (s:List ST),vP s<m→s.length≤9223372036854775807→iF s→Fn Tryz.prog 192 [.d (.l (s.map aq))] [.d (.v (.bool (jl s)))]:=by
 intro m
 induction m with
 | zero=>intro s h;omega
 | succ m ih=>
 intro s hm hsl hok;have hsg:=kN hok;obtain⟨R,hR⟩:∃ R,jl s=R:=⟨_,rfl⟩
 rw[hR];refine Fn.of Tryz.func192 rfl (by kernel_rfl) Tryz.ntmps192 Tryz.results192 rfl fun w0 S0=>?_;refine wk ?_;refine AC.loop (X:=Nat) (fun i=>⟨[(6,.d (.l (s.map aq))),(7,.d (.v (.int .i64 (s.length:Int)))),(8,.d (.v (.int .i64 (i:Int))))],[]⟩) (fun i=>i≤s.length∧jl (s.drop i)=R) (fun i=>s.length-i) 0 ⟨Nat.zero_le _,hR⟩ ⟨rfl,rfl,rfl,trivial⟩ trivial ?_;intro i ⟨hi,hgo⟩;dsimp only at hi hgo ⊢;refine wk ?_;refine s1 (fun g1=>?_) (fun g1=>?_)
 ·have hi1:i<s.length:=by omega
  have hx:s[i]?=some s[i]:=List.getElem?_eq_getElem hi1;rw[List.drop_eq_getElem_cons hi1,jl]at hgo;have hgm:=List.getElem_mem hi1;generalize s[i]=g at hx hgm hgo;have ho:=hsg _ hgm;obtain⟨b,w,l⟩:=g;have hs:=uj hgm;rw[qp]at ho;obtain⟨ho0,ho1,ho2⟩:=ho;cases b with
  | false=>
    rw[DS]at hgo;have hf:=ih l (by omega) ho1 ho2;rw[←fR]at hf;cases hv:jl l with
    | true=>
      rw[hv]at hf hgo;rw[Bool.true_and]at hgo;refine wk ?_;refine c1 hf ?_;refine wk ?_;exact⟨i+1,⟨hi1,hgo⟩,by omega,⟨rfl,rfl,rfl,trivial⟩,trivial⟩
    | false=>
      rw[hv]at hf hgo;rw[Bool.false_and]at hgo;subst hgo;refine wk ?_;refine c1 hf ?_;refine wk ?_;exact⟨.d rfl (.inl rfl),trivial⟩
  | true=>
    rw[EC]at hgo;by_cases hw:w=[]
    ·subst hw;have hgo:(false&&jl (s.drop (i+1)))=R:=hgo;rw[Bool.false_and]at hgo;subst hgo;refine wk ?_;((try (first | intro K ms hms hK | intro K hK));(first | apply Ch.go | apply Ch.ah);exact rfl;exact rfl;exact Loc.fz (r:=true) rfl rfl rfl Fj);refine wk ?_;exact⟨.d rfl (.inl rfl),trivial⟩
    have he:w.isEmpty=false:=by simpa using hw
    rw[he,Bool.not_false,Bool.true_and]at hgo;refine wk ?_;((try (first | intro K ms hms hK | intro K hK));(first | apply Ch.go | apply Ch.ah);exact rfl;exact rfl;exact Loc.fz (r:=false) rfl rfl rfl (Fi hw));refine wk ?_;((try (first | intro K ms hms hK | intro K hK));(first | apply Ch.go | apply Ch.ah);exact rfl;exact rfl;exact Loc.bF rfl rfl (by kernel_rfl));rw[show (tx (ST.mk true w l).w).size=w.length from rfl];refine wk ?_;refine AC.loop (X:=Nat) (fun j=>⟨[(4,.p 4 0),(6,.d (.l (s.map aq))),(7,.d (.v (.int .i64 (s.length:Int)))),(8,.d (.v (.int .i64 (i:Int)))),(24,.d (.v (.int .i64 (w.length:Int)))),(25,.d (.v (.int .i64 (j:Int))))],[(4,.box 188 [.d (.v (.bool true)),.d (.v (.string (tx w))),.d (.l (qz l))])]⟩) (fun j=>j≤w.length∧((w.drop j).all au&&jl (s.drop (i+1)))=R) (fun j=>w.length-j) 0 ⟨Nat.zero_le _,hgo⟩ ⟨rfl,rfl,rfl,rfl,rfl,rfl,trivial⟩ ⟨rfl,trivial⟩ ?_;intro j ⟨hj,hgj⟩;dsimp only at hj hgj ⊢;refine wk ?_;refine s1 (fun g2=>?_) (fun g2=>?_)
    ·have hj1:j<w.length:=by omega
     have hget:w[j]?=some w[j]:=List.getElem?_eq_getElem hj1;rw[List.drop_eq_getElem_cons hj1,List.all_cons]at hgj;generalize w[j]=c at hget hgj;have hp:=yk c;cases hv:au c with
     | true=>
       rw[hv]at hp hgj;rw[Bool.true_and]at hgj;refine wk ?_;((try (first | intro K ms hms hK | intro K hK));(first | apply Ch.go | apply Ch.ah);exact rfl;exact rfl;exact Loc.bV (c:=c) j rfl rfl rfl rfl hget (by kernel_rfl));refine c1 hp ?_;refine wk ?_;exact⟨j+1,⟨hj1,hgj⟩,by omega,⟨rfl,rfl,rfl,rfl,rfl,rfl,trivial⟩,⟨rfl,trivial⟩⟩
     | false=>
       rw[hv]at hp hgj;rw[Bool.false_and,Bool.false_and]at hgj;subst hgj;refine wk ?_;((try (first | intro K ms hms hK | intro K hK));(first | apply Ch.go | apply Ch.ah);exact rfl;exact rfl;exact Loc.bV (c:=c) j rfl rfl rfl rfl hget (by kernel_rfl));refine c1 hp ?_;refine wk ?_;exact⟨.d rfl (.inl rfl),trivial⟩
    ·rw[List.drop_of_length_le (by omega),List.all_nil,Bool.true_and]at hgj;refine wk ?_;exact⟨i+1,⟨hi1,hgj⟩,by omega,⟨rfl,rfl,rfl,trivial⟩,trivial⟩
 ·rw[List.drop_of_length_le (by omega),jl]at hgo;subst hgo;refine wk ?_;exact⟨.d rfl (.inl rfl),trivial⟩
def pH(s:List ST):Int:=if (ga s 0 0).2=true then if jl s=true then 0 else 4 else 2
theorem yB(s:List ST)(hl:s.length≤9223372036854775807)(hok:iF s):Fn Tryz.prog 144 [.d (.l (s.map aq))] [.d (.v (.int .i64 (pH s)))]:=by
 have h1:=BY _ s (Nat.lt_succ_self _) hl hok 0 0 (by decide) (by decide) (by decide);have h2:=BM _ s (Nat.lt_succ_self _) hl hok;unfold pH;generalize ga s 0 0=T at h1 ⊢;obtain⟨c,v⟩:=T;dsimp only at h1 ⊢;cases v with
 | false=>
   rw[if_neg (by decide)];refine Fn.of Tryz.func144 rfl (by kernel_rfl) Tryz.ntmps144 Tryz.results144 rfl fun w0 S0=>?_;refine wk ?_;refine c1 h1 ?_;refine wk ?_;exact⟨.d rfl (.inl rfl),trivial⟩
 | true=>
   rw[if_pos rfl];cases hv:jl s with
   | true=>
     rw[hv]at h2;rw[if_pos rfl];refine Fn.of Tryz.func144 rfl (by kernel_rfl) Tryz.ntmps144 Tryz.results144 rfl fun w0 S0=>?_;refine wk ?_;refine c1 h1 ?_;refine wk ?_;refine c1 h2 ?_;refine wk ?_;exact⟨.d rfl (.inl rfl),trivial⟩
   | false=>
     rw[hv]at h2;rw[if_neg (by decide)];refine Fn.of Tryz.func144 rfl (by kernel_rfl) Tryz.ntmps144 Tryz.results144 rfl fun w0 S0=>?_;refine wk ?_;refine c1 h1 ?_;refine wk ?_;refine c1 h2 ?_;refine wk ?_;exact⟨.d rfl (.inl rfl),trivial⟩
theorem eA(w:List UInt8):Fn Tryz.prog 86 [.d (.v (.string (tx w)))] [.g (aq (.mk true w []))]:=by
 rw[bE];refine Fn.of Tryz.func86 rfl (by kernel_rfl) Tryz.ntmps86 Tryz.results86 rfl fun w0 S0=>?_;refine wk ?_;exact⟨.cn rfl rfl inferInstance rfl ⟨.inl rfl,.inl rfl,.inr rfl,trivial⟩,trivial⟩
end Go.Proofs.YthdkkpocihkgbaaGreatDoor
namespace Go.Proofs.YthdkkpocihkgbaaGreatDoor
open Go.RowKit
theorem v8:∀ l:List UInt8,(l.map fun c=>[Value.int .u8 (c.toNat:Int)]).flatten=mD l
 | []=>rfl
 | c::r=>by
   rw[List.map_cons,List.flatten_cons,v8 r];rfl
section
variable {P:Program}{C:Cx}{o:Oper}{σ:AS}
theorem Do.BU{s x:Operand}{T T':TypeId}{id g d:Nat}{e:TypeId}{bytes:Nat}{xs:List (List D)}{l:List UInt8}(ho:o.op= .call {callee:= .builtin .append,args:= #[s,x],argTypes:= #[T,T'] })(hd:o.dst=some d)(hs:ev σ s= .r id g)(hO:af σ.objs id=some (.row g e 1 xs))(hx:ev σ x= .d (.v (.string (tx l))))
  (hT:P.underlying T'=some .string) [h:Sl P T e 1 bytes] (hb:(xs.length+l.length)*bytes≤140737488355328):
  Do P C o σ (.r id (g+1)) ⟨[id],[],[(id,.row (g+1) e 1 (xs++l.map de))],none⟩:=by
 intro σ' hl hdst a w K Q' ⟨β,hi⟩ hK;have hs1:=hl.ra hi (x:=s) (by rw[ho];simp[Op.operands,Call.operands]);rw[hs]at hs1;replace hO:af σ'.objs id=some (.row g e 1 xs):=by rw[hl.rd id (by simp)];exact hO
 have hx1:=hl.ra hi (x:=x) (by rw[ho];simp[Op.operands,Call.operands]);rw[hx]at hx1;have hxe:=RA.val hx1;have hu:=(hs1 g e 1 xs hO).2 rfl;obtain⟨css,h1,h2,h3,hown⟩:=hi.obj id _ hO;have q1:(l.map fun c=>[Value.int .u8 (c.toNat:Int)]).length=(l.map de).length:=by simp
 have q2:∀ (S:Nat→Prop) (w:World) i (h:i<(l.map fun c=>[Value.int .u8 (c.toNat:Int)]).length) (h':i<(l.map de).length),RDs S w (l.map fun c=>[Value.int .u8 (c.toNat:Int)])[i] (l.map de)[i]:=fun S w i h h'=>by
  rw[List.getElem_map,List.getElem_map];exact .cons (.v rfl) .nil
 have hk:∀ y∈l.map de,y.length=1:=fun y hy=>by
  obtain⟨c,_,rfl⟩:=List.mem_map.1 hy;rfl
 have hfl:(l.map fun c=>[Value.int .u8 (c.toNat:Int)]).flatten=byteCells (tx l):=v8 l;obtain⟨i,z,hinf,hz,hsize,hby,hzs⟩:=h.e.info;have hlen63:xs.length+l.length≤9223372036854775807:=by
  have:=Nat.le_mul_of_pos_right (xs.length+l.length) h.e.pos;omega
 obtain⟨v',w',hr,r1,r2,r3⟩:=fD (P:=P) w 0 T T' o.type e i z 1 bytes h.e.under hinf hz hsize hby hzs (β id) xs.length css.flatten hown _ l.length (byteCells (tx l)) (Src.ofString _ hT (tx l)) hlen63 hb (Nat.zero_le _);have hblk:=jF hown;have hblk':=jF r1;unfold Oper.wp;rw[jR ho hu hxe hr];refine hK _ _ ⟨ao β id v',?_⟩;rw[hd];have:=Inv.put (hi.di (w':=w') id (.row g e 1 xs) (.row (g+1) e 1 (xs++l.map de)) hO v' r2.os r2.tape r2.output r2.size (fun k hk hne=>r2.block k hk fun e=>hne (by rw[hblk,←e])) (fun b hb=>?_) ⟨by omega,fun h=>absurd h (by omega)⟩ (fun hD _=>?_)) (some d) (fun t ht=>by cases ht;exact dstOK.out hdst d hd) (v:= .r id (g+1)) (u:=v') ?_
 ·exact this
 ·rw[hblk']at hb;have hlt:=r1.lt b hb;refine⟨?_,hlt.2⟩;rcases r3 b hb with h4 | h4
  ·left;rw[hblk];exact h4
  ·right;omega
 ·refine RO.grown (id:=id) (ys:=l.map de) h1 h2 h3 q1 (q2 _ w) hk hD ?_;rw[hfl,List.length_map];simpa only[ao,if_true] using r1
 ·intro g' e2 k2 xs2 h4;rw[ai,if_pos rfl]at h4;cases h4;exact⟨Nat.le_refl _,fun _=>by simp[ao]⟩
end
mutual
def gD:ST→List UInt8
 | .mk b w l=>if b=true then w else 40::(dV l++[41])
def dV:List ST→List UInt8
 | []=>[]
 | s::r=>gD s++lZ r
def lZ:List ST→List UInt8
 | []=>[]
 | s::r=>32::(gD s++lZ r)
end
theorem Cz(w:List UInt8)(l:List ST):gD (.mk false w l)=40::(dV l++[41]):=by
 rw[gD];exact if_neg (by decide)
theorem C0(w:List UInt8)(l:List ST):gD (.mk true w l)=w:=by
 rw[gD];exact if_pos rfl
attribute [local irreducible] AC Do St
theorem vR:∀ a b:List ST,lZ (a++b)=lZ a++lZ b
 | [],b=>rfl
 | s::r,b=>by
   show 32::(gD s++lZ (r++b))=_;rw[vR r b,lZ];simp
theorem rR(a b:List ST)(h:a≠[]):dV (a++b)=dV a++lZ b:=by
 match a,h with
 | s::r,_=>
   show gD s++lZ (r++b)=_;rw[vR,dV];simp
theorem sf(l:List ST)(i:Nat):(dV (l.take i)).length≤(dV l).length:=by
 by_cases h:l.take i=[]
 ·rw[h];simp[dV]
 ·have e:=rR (l.take i) (l.drop i) h;rw[List.take_append_drop]at e;rw[e];simp
theorem w7{l:List ST}(h:0<l.length):dV (l.take (0+1))=gD l[0]:=by
 match l,h with
 | s::r,_=>
   show gD s++lZ []=gD s;rw[lZ,List.append_nil]
theorem wL{l:List ST}{i:Nat}(h:i<l.length)(h0:0<i):dV (l.take (i+1))=dV (l.take i)++[32]++gD l[i]:=by
 rw[List.take_succ_eq_append_getElem h,rR _ _ (fun e=>by
  have h3:(l.take i).length=i:=by rw[List.length_take];omega
  rw[e]at h3;simp at h3;omega)]
 rw[lZ,lZ];simp
theorem sG(T:List UInt8)(c:UInt8):T.map de++[[.v (.int .u8 (c.toNat:Int))]]=(T++[c]).map de:=by
 rw[List.map_append];rfl
theorem Fz(T:List UInt8):T.map de++[List.map D.fg [.v (.int .u8 40)]]=(T++[40]).map de:=sG T 40
theorem E5(T:List UInt8):T.map de++[List.map D.fg [.v (.int .u8 41)]]=(T++[41]).map de:=sG T 41
theorem FA(T:List UInt8):T.map de++[List.map D.fg [.v (.int .u8 32)]]=(T++[32]).map de:=sG T 32
theorem Fb(T:List UInt8):T.map de++[List.map D.fg [.v (.int .u8 10)]]=(T++[10]).map de:=sG T 10
noncomputable def yN (f:ST):Nat:=SizeOf.sizeOf f
theorem Cj{b:Bool}{w:List UInt8}{l:List ST}{f:ST}(h:f∈l):yN f<yN (.mk b w l):=by
 have:=List.sizeOf_lt_of_mem h;unfold yN;simp only[ST.mk.sizeOf_spec];omega
theorem Fk:∀ (m:Nat) (s:ST),yN s<m→qp s→∀ (acc:List UInt8),acc.length+(gD s).length≤1000000000000→FnA Tryz.prog 145 5 1 (acc.map de) [.g (aq s)] ((acc++gD s).map de):=by
 intro m
 induction m with
 | zero=>intro f h;omega
 | succ m ih=>
 intro s hm hok acc hlen;obtain⟨b,w,l⟩:=s;have hsub:∀ g∈l,yN g<m:=fun g hg=>by have:=Cj (b:=b) (w:=w) hg;omega
 rw[qp]at hok;obtain⟨ho0,ho1,ho2⟩:=hok;have hsg:=kN ho2;rw[bE];have hma:(acc.map de).length=acc.length:=List.length_map ..;cases b with
 | true=>
   rw[C0]at hlen ⊢;refine FnA.of Tryz.func145 rfl (by kernel_rfl) Tryz.ntmps145 Tryz.results145 rfl fun w0 S0 v=>?_;refine wk ?_;((try (first | intro K ms hms hK | intro K hK));(first | apply Ch.ef | apply Ch.bU);exact rfl;exact rfl;exact Do.BU rfl rfl rfl rfl rfl (by kernel_rfl) (by rw[hma];omega);exact rfl;exact rfl);refine wk ?_;exact⟨4,_,rfl,rfl,by rw[List.map_append];rfl⟩
 | false=>
   rw[Cz]at hlen ⊢;simp only[List.length_cons,List.length_append,List.length_nil]at hlen;refine FnA.of Tryz.func145 rfl (by kernel_rfl) Tryz.ntmps145 Tryz.results145 rfl fun w0 S0 v=>?_;refine wk ?_;rw[Fz];refine AC.loop (X:=Nat×Nat) (fun x=>⟨[(0,.r 36 x.2),(17,.d (.l (l.map aq))),(18,.d (.v (.int .i64 (l.length:Int)))),(19,.d (.v (.int .i64 (x.1:Int))))],[(36,.row x.2 5 1 ((acc++[40]++dV (l.take x.1)).map de))]⟩) (fun x=>x.1≤l.length) (fun x=>l.length-x.1) (0,1) (Nat.zero_le _) ⟨rfl,rfl,rfl,rfl,trivial⟩ ⟨by dsimp only;rw[show dV (l.take 0)=[]from rfl,List.append_nil];rfl,trivial⟩ ?_;intro ⟨i,g⟩ hi;dsimp only at hi ⊢;have hpl:=sf l i;have hml:((acc++[40]++dV (l.take i)).map de).length=acc.length+1+(dV (l.take i)).length:=by simp;omega
   refine wk ?_;refine s1 (fun g1=>?_) (fun g1=>?_)
   ·have hi1:i<l.length:=by omega
    have hx:l[i]?=some l[i]:=List.getElem?_eq_getElem hi1;have hgm:=List.getElem_mem hi1;have hpl2:=sf l (i+1);by_cases h0:i=0
    ·subst h0;have he:=w7 (l:=l) hi1;generalize l[0]=e at hx hgm he;rw[he]at hpl2;have hf:=ih e (hsub e hgm) (hsg e hgm) (acc++[40]++dV (l.take 0)) (by rw[show dV (l.take 0)=[]from rfl];simp;omega);refine wk ?_;((try (first | intro K ms hms hK | intro K hK));(first | apply Ch.ef | apply Ch.bU);exact rfl;exact rfl;(refine Do.oU (hf) rfl rfl rfl ?_;(repeat (first | exact trivial | refine⟨.inl rfl,?_⟩ | refine⟨.inr rfl,?_⟩)));exact rfl;exact rfl);refine wk ?_;exact⟨(0+1,_),hi1,by dsimp only;omega,⟨rfl,rfl,rfl,rfl,trivial⟩,⟨by dsimp only;rw[he,show dV (l.take 0)=[]from rfl,List.append_nil];rfl,trivial⟩⟩
    ·have he:=wL (l:=l) hi1 (by omega);generalize l[i]=e at hx hgm he;rw[he]at hpl2;simp only[List.length_append,List.length_cons,List.length_nil]at hpl2;have hf:=ih e (hsub e hgm) (hsg e hgm) (acc++[40]++dV (l.take i)++[32]) (by simp;omega);refine wk ?_;rw[FA];((try (first | intro K ms hms hK | intro K hK));(first | apply Ch.ef | apply Ch.bU);exact rfl;exact rfl;(refine Do.oU (hf) rfl rfl rfl ?_;(repeat (first | exact trivial | refine⟨.inl rfl,?_⟩ | refine⟨.inr rfl,?_⟩)));exact rfl;exact rfl);refine wk ?_;exact⟨(i+1,_),hi1,by dsimp only;omega,⟨rfl,rfl,rfl,rfl,trivial⟩,⟨by dsimp only;rw[he];simp only[List.append_assoc];rfl,trivial⟩⟩
   ·obtain rfl:i=l.length:=by omega
    rw[List.take_length]at hml ⊢;refine wk ?_;rw[E5];exact⟨4,_,rfl,rfl,by simp;rfl⟩
def eL(s:List ST):List UInt8:=s.flatMap fun t=>gD t++[10]
theorem xu{s:List ST}{i:Nat}(h:i<s.length):eL (s.take (i+1))=eL (s.take i)++gD s[i]++[10]:=by
 rw[List.take_succ_eq_append_getElem h];unfold eL;rw[List.flatMap_append];simp
theorem tJ(s:List ST)(i:Nat):(eL (s.take i)).length≤(eL s).length:=by
 have e:eL s=eL (s.take i)++eL (s.drop i):=by
  unfold eL;rw[←List.flatMap_append,List.take_append_drop]
 rw[e];simp
def B6(s:List ST):List DV:=if pH s=0 then [.d (.v (.string (tx (eL s)))),.d (.v (.int .i64 0))]else [.d (.v (.string (tx []))),.d (.v (.int .i64 (pH s)))]
theorem xH(s:List ST)(hl:s.length≤9223372036854775807)(hok:iF s)(hlen:(eL s).length≤1000000000000):Fn Tryz.prog 89 [.d (.l (s.map aq))] (B6 s):=by
 have hc:=yB s hl hok;have hsg:=kN hok;unfold B6;by_cases h0:pH s=0
 rotate_left
 ·rw[if_neg h0];generalize pH s=c at hc h0 ⊢;refine Fn.of Tryz.func89 rfl (by kernel_rfl) Tryz.ntmps89 Tryz.results89 rfl fun w0 S0=>?_;refine wk ?_;refine c1 hc ?_;refine wk ?_;exact⟨.d rfl (.inl rfl),.d rfl (.inl rfl),trivial⟩
 rw[if_pos h0];rw[h0]at hc;refine Fn.of Tryz.func89 rfl (by kernel_rfl) Tryz.ntmps89 Tryz.results89 rfl fun w0 S0=>?_;refine wk ?_;refine c1 hc ?_;refine wk ?_;refine AC.j7 5 25 5 1 rfl rfl ?_;refine AC.loop (X:=Nat×Nat) (fun x=>⟨[(5,.r 25 x.2),(13,.d (.l (s.map aq))),(14,.d (.v (.int .i64 (s.length:Int)))),(15,.d (.v (.int .i64 (x.1:Int))))],[(25,.row x.2 5 1 ((eL (s.take x.1)).map de))]⟩) (fun x=>x.1≤s.length) (fun x=>s.length-x.1) (0,0) (Nat.zero_le _) ⟨rfl,rfl,rfl,rfl,trivial⟩ ⟨rfl,trivial⟩ ?_;intro ⟨i,g⟩ hi;dsimp only at hi ⊢;have hpl:=tJ s i;have hml:((eL (s.take i)).map de).length=(eL (s.take i)).length:=List.length_map ..;refine wk ?_;refine s1 (fun g1=>?_) (fun g1=>?_)
 ·have hi1:i<s.length:=by omega
  have hx:s[i]?=some s[i]:=List.getElem?_eq_getElem hi1;have hgm:=List.getElem_mem hi1;have hpl2:=tJ s (i+1);have he:=xu (s:=s) hi1;generalize s[i]=e at hx hgm he;rw[he]at hpl2;simp only[List.length_append,List.length_cons,List.length_nil]at hpl2;have hf:=Fk _ e (Nat.lt_succ_self _) (hsg e hgm) (eL (s.take i)) (by omega);have hml2:((eL (s.take i)++gD e).map de).length=(eL (s.take i)).length+(gD e).length:=by simp
  refine wk ?_;((try (first | intro K ms hms hK | intro K hK));(first | apply Ch.ef | apply Ch.bU);exact rfl;exact rfl;(refine Do.oU (hf) rfl rfl rfl ?_;(repeat (first | exact trivial | refine⟨.inl rfl,?_⟩ | refine⟨.inr rfl,?_⟩)));exact rfl;exact rfl);refine wk ?_;rw[Fb];exact⟨(i+1,_),hi1,by dsimp only;omega,⟨rfl,rfl,rfl,rfl,trivial⟩,⟨by dsimp only;rw[he];rfl,trivial⟩⟩
 ·obtain rfl:i=s.length:=by omega
  rw[List.take_length];refine wk ?_;(first | intro K ms hms hK | intro K hK | skip);refine Ch.br 25 rfl rfl ?_;((try (first | intro K ms hms hK | intro K hK));(first | apply Ch.go | apply Ch.ah);exact rfl;exact rfl;exact Loc.toStr (e:=5) rfl rfl (by kernel_rfl) (by kernel_rfl) (by kernel_rfl));refine wk ?_;exact⟨.d rfl (.inl rfl),.d rfl (.inl rfl),trivial⟩
