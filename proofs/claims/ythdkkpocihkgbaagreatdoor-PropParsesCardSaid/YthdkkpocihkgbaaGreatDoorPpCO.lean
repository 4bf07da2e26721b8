import Derived.Test.YthdkkpocihkgbaaGreatDoorPpH
set_option maxRecDepth 100000
set_option maxHeartbeats 32000000
namespace Go.Proofs.YthdkkpocihkgbaaGreatDoor
open Go.RowKit
attribute [local irreducible] AC Do St
theorem FK{i:Int}{p:PP}{w v:List UInt8}{hl t:List ST}{fk fa:Int}{fs:List FT}{o:Bool}(n:Nat)(hv:v=[111,114])(m1:v≠[110,111,116])(m2:v≠[97,110,100])(hq:∀ x∈t,∀(g:FT) (n':Nat),n'+cX x≤1000000→Fn Tryz.prog 97 [.g (aq x),.d (.v (.int .i64 i)),.g (dN p),.g (aM g),.d (.v (.int .i64 (n':Int)))] [.d (.v (.int .i64 (cK i p.ats x g n')))])(hn':n+aK t≤1000000)(ho2:(fk≠4∧o=true)∨(fk=4∧fs.length≠t.length∧o=true)∨(fk=4∧fs.length=t.length∧o=false)):Fn Tryz.prog 97 [.g [.v (.bool false),.v (.string (tx w)),.l ((ST.mk true v hl::t).map aq)],.d (.v (.int .i64 i)),.g (dN p),.g [.v (.int .i64 fk),.v (.int .i64 fa),.l (fs.map aM)],.d (.v (.int .i64 (n:Int)))] [.d (.v (.int .i64 (cP i p.ats t fs o n)))]:=by
 have hl0:(ST.mk true v hl::t).length=t.length+1:=List.length_cons ..;have hg0:(ST.mk true v hl::t)[0]?=some (.mk true v hl):=rfl;have hml:(t.map aq).length=t.length:=List.length_map ..;have hsml:(fs.map aM).length=fs.length:=List.length_map ..;have hdr:((ST.mk true v hl::t).map aq).drop 1=t.map aq:=rfl;have hcl:=cj t;have htl:t.length≤1000000:=by omega
 have hol:o=false→fs.length=t.length:=fun e=>by
  rcases ho2 with h | h | h
  ·rw[h.2]at e;cases e
  ·rw[h.2.2]at e;cases e
  ·exact h.2.1
 obtain⟨R,hR⟩:∃ R,cP i p.ats t fs o n=R:=⟨_,rfl⟩
 rw[hR];rcases ho2 with ⟨k1,rfl⟩ | ⟨k1,k2,rfl⟩ | ⟨k1,k2,rfl⟩
 all_goals
  refine Fn.of Tryz.func97 rfl (by kernel_rfl) Tryz.ntmps97 Tryz.results97 rfl fun w0 S0=>?_;refine wa ?_;((try (first | intro K ms hms hK | intro K hK));(first | apply Ch.go | apply Ch.ah);exact rfl;exact rfl;exact Loc.cC 1 rfl rfl rfl rfl (by simp) (cI _));rw[hdr];refine wa ?_;refine AC.loop (X:=Nat×Nat×Bool) (fun x=>⟨[(1,.d (.v (.int .i64 i))),(4,.d (.v (.int .i64 (x.2.1:Int)))),(7,.p 7 0),(8,.p 8 0),(19,.d (.v (.bool x.2.2))),(202,.d (.l (t.map aq))),(203,.d (.v (.int .i64 (t.length:Int)))),(204,.d (.v (.int .i64 (x.1:Int))))],[(7,.box 92 ((dN p).map .d)),(8,.box 90 [.d (.v (.int .i64 fk)),.d (.v (.int .i64 fa)),.d (.l (fs.map aM))])]⟩) (fun x=>x.1≤t.length∧(x.2.2=false→fs.length=t.length)∧x.2.1+aK (t.drop x.1)≤1000000∧cP i p.ats (t.drop x.1) (fs.drop x.1) x.2.2 (x.2.1:Int)=R) (fun x=>t.length-x.1) (0,n,_) ⟨Nat.zero_le _,hol,hn',hR⟩ ⟨rfl,rfl,rfl,rfl,rfl,rfl,rfl,rfl,trivial⟩ ⟨rfl,rfl,trivial⟩ ?_;intro ⟨j,n1,o1⟩ ⟨hj,hol1,hn1,hgo⟩;dsimp only at hj hol1 hn1 hgo ⊢;clear hR hol hn'
  try clear k2
  by_cases g1:j<t.length
  ·have hg:t[j]?=some t[j]:=List.getElem?_eq_getElem g1;have hmem:=List.getElem_mem g1;rw[List.drop_eq_getElem_cons g1,cP,List.tail_drop]at hgo;rw[List.drop_eq_getElem_cons g1,aj]at hn1;generalize t[j]=x at hg hmem hgo hn1;cases o1 with
   | true=>
     rw[if_pos rfl]at hgo;have hr:=hq x hmem (.mk 0 0 []) n1 (by omega);have hrg:=ju i p.ats _ x (Nat.lt_succ_self _) (.mk 0 0 []) n1 (by omega);generalize cK i p.ats x (.mk 0 0 []) n1=q at hr hrg hgo;by_cases q1:q= -1
     ·rw[if_pos q1]at hgo;subst hgo;refine wa ?_;exact⟨.d rfl (.inl rfl),trivial⟩
     rw[if_neg q1,Bool.true_or]at hgo;by_cases q2:0≤q
     ·rw[if_pos q2]at hgo;obtain⟨n2,rfl⟩:∃ n2:Nat,q=(n2:Int):=⟨q.toNat,by omega⟩
      refine wa ?_;exact⟨(j+1,n2,true),⟨g1,(fun h=>nomatch h),by dsimp only;omega,hgo⟩,by dsimp only;omega,⟨rfl,rfl,rfl,rfl,rfl,rfl,rfl,rfl,trivial⟩,⟨rfl,rfl,trivial⟩⟩
     ·rw[if_neg q2]at hgo;refine wa ?_;exact⟨(j+1,n1,true),⟨g1,(fun h=>nomatch h),by dsimp only;omega,hgo⟩,by dsimp only;omega,⟨rfl,rfl,rfl,rfl,rfl,rfl,rfl,rfl,trivial⟩,⟨rfl,rfl,trivial⟩⟩
   | false=>
     have hfl:=hol1 rfl;have hgf:fs[j]?=some fs[j]:=List.getElem?_eq_getElem (by omega);rw[if_neg (show ¬(false=true)by decide),List.drop_eq_getElem_cons (show j<fs.length by omega),List.headD_cons]at hgo;generalize fs[j]=g at hgf hgo;have hr:=hq x hmem g n1 (by omega);have hrg:=ju i p.ats _ x (Nat.lt_succ_self _) g n1 (by omega);generalize cK i p.ats x g n1=q at hr hrg hgo;by_cases q1:q= -1
     ·rw[if_pos q1]at hgo;subst hgo;refine wa ?_;exact⟨.d rfl (.inl rfl),trivial⟩
     rw[if_neg q1,Bool.false_or]at hgo;by_cases q2:0≤q
     ·rw[if_pos q2,decide_eq_false (show ¬q= -2 by omega)]at hgo;obtain⟨n2,rfl⟩:∃ n2:Nat,q=(n2:Int):=⟨q.toNat,by omega⟩
      refine wa ?_;exact⟨(j+1,n2,false),⟨g1,hol1,by dsimp only;omega,hgo⟩,by dsimp only;omega,⟨rfl,rfl,rfl,rfl,rfl,rfl,rfl,rfl,trivial⟩,⟨rfl,rfl,trivial⟩⟩
     ·have q3:q= -2:=by omega
      rw[if_neg q2,decide_eq_true q3]at hgo;refine wa ?_;exact⟨(j+1,n1,true),⟨g1,(fun h=>nomatch h),by dsimp only;omega,hgo⟩,by dsimp only;omega,⟨rfl,rfl,rfl,rfl,rfl,rfl,rfl,rfl,trivial⟩,⟨rfl,rfl,trivial⟩⟩
  ·rw[List.drop_eq_nil_of_le (by omega),cP]at hgo;cases o1 with
   | true=>
     rw[if_pos rfl]at hgo;subst hgo;refine wa ?_;exact⟨.d rfl (.inl rfl),trivial⟩
   | false=>
     rw[if_neg (by decide)]at hgo;subst hgo;refine wa ?_;exact⟨.d rfl (.inl rfl),trivial⟩
