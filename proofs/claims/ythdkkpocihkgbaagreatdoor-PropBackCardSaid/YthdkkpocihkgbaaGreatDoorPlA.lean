import Derived.Test.YthdkkpocihkgbaaGreatDoorPrL
import Derived.Test.YthdkkpocihkgbaaGreatDoorPrY
import Derived.Test.YthdkkpocihkgbaaGreatDoorPrZ
import Derived.Test.YthdkkpocihkgbaaGreatDoorOpenN
set_option maxRecDepth 100000
set_option maxHeartbeats 8000000
namespace Go.Proofs.YthdkkpocihkgbaaGreatDoor
open Go.RowKit
section
variable {P:Program}{C:Cx}{o:Oper}{σ:AS}
theorem run_indexA{T e n k:Nat}(hA:P.underlying T=some (.array n e))(hs:(P.info? e).map (·.size)=some k)(b off:Nat)(kd:IntKind)(i:Nat)(hi:i<n)(w:World):
  (Instr.indexAt T (.pointer (some ⟨b,off,none⟩)) (.int kd (i:Int))).run P w= .ok (.pointer (some ⟨b,off+i*k,none⟩)) w:=by
 obtain⟨ti,h4,h5⟩:=Option.map_eq_some_iff.1 hs;simp[Instr.indexAt,asIntOf,run_underlying hA,Instr.sureAddr,sizeOf,typeInfo,h4,h5,Addr.add_mid,hi]
theorem Loc.idxA{T e n k:Nat}{x y:Operand}{kd:IntKind}{m:Int}{cs:List D}(i:Nat)(ho:o.op= .indexAddr T x y)(hx:ev σ x= .q cs)(hy:ev σ y= .d (.v (.int kd m)))(hm:m=(i:Int))(hA:P.underlying T=some (.array n e))(hs:(P.info? e).map (·.size)=some k)(hi:i<n):Loc P C o σ (.q (cs.drop (i*k))):=by
 subst hm;exact Loc.two (by rw[ho];simp[Op.operands]) hx (by rw[ho];simp[Op.operands]) hy fun S w β O a h1 h2=>by
  obtain⟨b,off,us,hu,hb,hr,hc⟩:=h1;refine⟨_,by unfold execOp;rw[ho];simp[hu,RA.val h2,run_indexA hA hs b off kd i hi],b,off+i*k,us.drop (i*k),rfl,hb,hr.drop _,fun j v hv=>?_⟩;rw[List.getElem?_drop]at hv;rw[Nat.add_assoc];exact hc _ _ hv
end
attribute [local irreducible] AC Do St
theorem map_snoc{α β:Type}(f:α→β){l:List α}{j:Nat}(h:j<l.length):(l.take (j+1)).map f=(l.take j).map f++[f l[j]]:=by
 rw[List.take_succ_eq_append_getElem h,List.map_append];rfl
theorem map_snoc2{α β γ:Type}(f:α→β)(g:β→γ){l:List α}{j:Nat}(h:j<l.length):((l.take (j+1)).map f).map g=((l.take j).map f).map g++[g (f l[j])]:=by
 rw[map_snoc f h,List.map_append];rfl
abbrev NN:=Bool×List Nat×List Nat
structure QP where
 box:List (NN×NN)
 ats:List AN
 bad:FT
def enPr(s:NN×NN):List D:=enN s.1++enN s.2
def enQP(q:QP):List D:=[.l (q.box.map enPr),.l (q.ats.map enAN)]++enF q.bad
def ofS(s:NN×NN):Rat×Rat:=(nQ s.1,nQ s.2)
def ofQ16(q:QP):PP:=⟨(q.box.take 40).map ofS,(q.ats.take 210).map atN,q.bad⟩
structure okQP(q:QP):Prop where
 box:∀ s∈q.box,okN s.1∧okN s.2
 ats:∀ a∈q.ats,okEN a.e
 bad:okT q.bad
theorem of16(q:QP)(hq:okQP q):Fn Tryz.prog 32 [.g (enQP q)] [.g (enPP (ofQ16 q))]:=by
 obtain⟨bx,ats,bad⟩:=q;obtain⟨h1,h2,h3⟩:=hq;dsimp only at h1 h2 h3;rw[show enQP ⟨bx,ats,bad⟩=[.l (bx.map enPr),.l (ats.map enAN)]++enF bad from rfl,show enPP (ofQ16 ⟨bx,ats,bad⟩)=[.l (((bx.take 40).map ofS).map enSd),.l (((ats.take 210).map atN).map enA)]++enF bad from rfl];have hml:(bx.map enPr).length=bx.length:=List.length_map ..;have hma:(ats.map enAN).length=ats.length:=List.length_map ..;refine Fn.of Tryz.func32 rfl (by kernel_rfl) Tryz.ntmps32 Tryz.results32 rfl fun w0 S0=>?_;refine wk ?_;refine AC.rowBox 3 0 60 152 6 rfl rfl rfl ?_;refine AC.loop (X:=Nat) (fun j=>⟨[(1,.p 1 0),(2,.p 2 0),(3,.p 3 0),(4,.d (.v (.int .i64 (j:Int))))],[(1,.box 78 (([D.l (bx.map enPr),D.l (ats.map enAN)]++enF bad).map .d)),(2,.box 83 [.d .n,.d .n,.d (.v (.int .i64 0)),.d (.v (.int .i64 0)),.d .n]),(3,.box 83 ([AV.r 60 j,.d .n]++(enF bad).map .d)),(60,.row j 152 6 (((bx.take j).map ofS).map enSd))]⟩) (fun j=>j≤bx.length∧j≤40) (fun j=>bx.length-j) 0 ⟨Nat.zero_le _,Nat.zero_le _⟩ ⟨rfl,rfl,rfl,rfl,trivial⟩ ⟨rfl,rfl,rfl,rfl,trivial⟩ ?_;intro j ⟨hj,hj40⟩;dsimp only at hj hj40 ⊢;refine wk ?_;refine s1 (fun g1=>?_) (fun g1=>?_)
 ·refine wk ?_;refine s1 (fun g2=>?_) (fun g2=>?_)
  ·have hj1:j<bx.length:=by omega
   have hg:bx[j]?=some bx[j]:=List.getElem?_eq_getElem hj1;obtain⟨q1,q2⟩:=h1 _ (List.getElem_mem hj1);have hts:((bx.take (j+1)).map ofS).map enSd=((bx.take j).map ofS).map enSd++[enR (nQ bx[j].1)++enR (nQ bx[j].2)]:=map_snoc2 ofS enSd hj1;generalize bx[j]=s at hg q1 q2 hts;obtain⟨lo,hi⟩:=s;dsimp only at q1 q2 hts;refine wk ?_;((try (first | intro K ms hms hK | intro K hK));(first | apply Chain.go | apply Chain.goD);exact rfl;exact rfl;exact Loc.idxA (e:=128) (n:=2) (k:=3) 0 rfl rfl rfl rfl (by kernel_rfl) (by kernel_rfl) (by decide));refine wk ?_;refine c1 (ofN lo q1) ?_;refine wk ?_;((try (first | intro K ms hms hK | intro K hK));(first | apply Chain.go | apply Chain.goD);exact rfl;exact rfl;exact Loc.idxA (e:=128) (n:=2) (k:=3) 1 rfl rfl rfl rfl (by kernel_rfl) (by kernel_rfl) (by decide));refine wk ?_;refine c1 (ofN hi q2) ?_;refine wk ?_;exact⟨j+1,⟨hj1,by omega⟩,by omega,⟨rfl,rfl,rfl,rfl,trivial⟩,⟨rfl,rfl,rfl,by rw[hts];rfl,trivial⟩⟩
  ·obtain rfl:j=40:=by omega
   (first | intro K ms hms hK | intro K hK | skip);refine Chain.frzBox 3 0 rfl rfl rfl ?_;refine wk ?_;refine AC.rowBox 3 1 61 157 5 rfl rfl rfl ?_;refine AC.loop (X:=Nat) (fun j=>⟨[(1,.p 1 0),(2,.p 2 0),(3,.p 3 0),(5,.d (.v (.int .i64 (j:Int))))],[(1,.box 78 (([D.l (bx.map enPr),D.l (ats.map enAN)]++enF bad).map .d)),(2,.box 83 [.d .n,.d .n,.d (.v (.int .i64 0)),.d (.v (.int .i64 0)),.d .n]),(3,.box 83 ([.d (.l (((bx.take 40).map ofS).map enSd)),AV.r 61 j]++(enF bad).map .d)),(61,.row j 157 5 (((ats.take j).map atN).map enA))]⟩) (fun j=>j≤ats.length∧j≤210) (fun j=>ats.length-j) 0 ⟨Nat.zero_le _,Nat.zero_le _⟩ ⟨rfl,rfl,rfl,rfl,trivial⟩ ⟨rfl,rfl,rfl,rfl,trivial⟩ ?_;intro i ⟨hi,hi210⟩;dsimp only at hi hi210 ⊢;refine wk ?_;refine s1 (fun g3=>?_) (fun g3=>?_)
   ·refine wk ?_;refine s1 (fun g4=>?_) (fun g4=>?_)
    ·have hi1:i<ats.length:=by omega
     have hg:ats[i]?=some ats[i]:=List.getElem?_eq_getElem hi1;have q1:=h2 _ (List.getElem_mem hi1);have hts:((ats.take (i+1)).map atN).map enA=((ats.take i).map atN).map enA++[enA (atN ats[i])]:=map_snoc2 atN enA hi1;generalize ats[i]=a at hg q1 hts;refine wk ?_;refine c1 (ofA a q1) ?_;refine wk ?_;exact⟨i+1,⟨hi1,by omega⟩,by omega,⟨rfl,rfl,rfl,rfl,trivial⟩,⟨rfl,rfl,rfl,by rw[hts];rfl,trivial⟩⟩
    ·obtain rfl:i=210:=by omega
     (first | intro K ms hms hK | intro K hK | skip);refine Chain.frzBox 3 1 rfl rfl rfl ?_;refine wk ?_;exact⟨.cn rfl rfl inferInstance rfl ⟨.inl rfl,.inl rfl,.inl rfl,.inl rfl,.inl rfl,trivial⟩,trivial⟩
   ·have he:ats.take 210=ats.take i:=by rw[List.take_of_length_le (by omega),List.take_of_length_le (by omega)]
    rw[he];(first | intro K ms hms hK | intro K hK | skip);refine Chain.frzBox 3 1 rfl rfl rfl ?_;refine wk ?_;exact⟨.cn rfl rfl inferInstance rfl ⟨.inl rfl,.inl rfl,.inl rfl,.inl rfl,.inl rfl,trivial⟩,trivial⟩
 ·have he:bx.take 40=bx.take j:=by rw[List.take_of_length_le (by omega),List.take_of_length_le (by omega)]
  rw[←he];(first | intro K ms hms hK | intro K hK | skip);refine Chain.frzBox 3 0 rfl rfl rfl ?_;refine wk ?_;refine AC.rowBox 3 1 61 157 5 rfl rfl rfl ?_;refine AC.loop (X:=Nat) (fun j=>⟨[(1,.p 1 0),(2,.p 2 0),(3,.p 3 0),(5,.d (.v (.int .i64 (j:Int))))],[(1,.box 78 (([D.l (bx.map enPr),D.l (ats.map enAN)]++enF bad).map .d)),(2,.box 83 [.d .n,.d .n,.d (.v (.int .i64 0)),.d (.v (.int .i64 0)),.d .n]),(3,.box 83 ([.d (.l (((bx.take 40).map ofS).map enSd)),AV.r 61 j]++(enF bad).map .d)),(61,.row j 157 5 (((ats.take j).map atN).map enA))]⟩) (fun j=>j≤ats.length∧j≤210) (fun j=>ats.length-j) 0 ⟨Nat.zero_le _,Nat.zero_le _⟩ ⟨rfl,rfl,rfl,rfl,trivial⟩ ⟨rfl,rfl,rfl,rfl,trivial⟩ ?_;intro i ⟨hi,hi210⟩;dsimp only at hi hi210 ⊢;refine wk ?_;refine s1 (fun g3=>?_) (fun g3=>?_)
  ·refine wk ?_;refine s1 (fun g4=>?_) (fun g4=>?_)
   ·have hi1:i<ats.length:=by omega
    have hg:ats[i]?=some ats[i]:=List.getElem?_eq_getElem hi1;have q1:=h2 _ (List.getElem_mem hi1);have hts:((ats.take (i+1)).map atN).map enA=((ats.take i).map atN).map enA++[enA (atN ats[i])]:=map_snoc2 atN enA hi1;generalize ats[i]=a at hg q1 hts;refine wk ?_;refine c1 (ofA a q1) ?_;refine wk ?_;exact⟨i+1,⟨hi1,by omega⟩,by omega,⟨rfl,rfl,rfl,rfl,trivial⟩,⟨rfl,rfl,rfl,by rw[hts];rfl,trivial⟩⟩
   ·obtain rfl:i=210:=by omega
    (first | intro K ms hms hK | intro K hK | skip);refine Chain.frzBox 3 1 rfl rfl rfl ?_;refine wk ?_;exact⟨.cn rfl rfl inferInstance rfl ⟨.inl rfl,.inl rfl,.inl rfl,.inl rfl,.inl rfl,trivial⟩,trivial⟩
  ·have he:ats.take 210=ats.take i:=by rw[List.take_of_length_le (by omega),List.take_of_length_le (by omega)]
   rw[he];(first | intro K ms hms hK | intro K hK | skip);refine Chain.frzBox 3 1 rfl rfl rfl ?_;refine wk ?_;exact⟨.cn rfl rfl inferInstance rfl ⟨.inl rfl,.inl rfl,.inl rfl,.inl rfl,.inl rfl,trivial⟩,trivial⟩
def rats40(l:List NN):List Rat:=(l.take 40).map nQ
theorem rats16(l:List NN)(hl:okP l):Fn Tryz.prog 36 [.d (.l (l.map enN))] [.d (.l ((rats40 l).map enR))]:=by
 unfold rats40;have hml:(l.map enN).length=l.length:=List.length_map ..;refine Fn.of Tryz.func36 rfl (by kernel_rfl) Tryz.ntmps36 Tryz.results36 rfl fun w0 S0=>?_;refine wk ?_;refine AC.loop (X:=Nat) (fun j=>⟨[(0,.d (.l (l.map enN))),(3,.r 5 j),(4,.d (.v (.int .i64 (j:Int))))],[(5,.row j 119 3 (((l.take j).map nQ).map enR))]⟩) (fun j=>j≤l.length∧j≤40) (fun j=>l.length-j) 0 ⟨Nat.zero_le _,Nat.zero_le _⟩ ⟨rfl,rfl,rfl,trivial⟩ ⟨rfl,trivial⟩ ?_;intro j ⟨hj,hj40⟩;dsimp only at hj hj40 ⊢;refine wk ?_;refine s1 (fun g1=>?_) (fun g1=>?_)
 ·refine wk ?_;refine s1 (fun g2=>?_) (fun g2=>?_)
  ·have hj1:j<l.length:=by omega
   have hg:l[j]?=some l[j]:=List.getElem?_eq_getElem hj1;have q1:=hl _ (List.getElem_mem hj1);have hts:((l.take (j+1)).map nQ).map enR=((l.take j).map nQ).map enR++[enR (nQ l[j])]:=map_snoc2 nQ enR hj1;generalize l[j]=s at hg q1 hts;refine wk ?_;refine c1 (ofN s q1) ?_;refine wk ?_;exact⟨j+1,⟨hj1,by omega⟩,by omega,⟨rfl,rfl,rfl,trivial⟩,⟨by rw[hts];rfl,trivial⟩⟩
  ·obtain rfl:j=40:=by omega
   (first | intro K ms hms hK | intro K hK | skip);refine Chain.frzVar 3 rfl rfl ?_;refine wk ?_;exact⟨.d rfl (.inl rfl),trivial⟩
 ·have he:l.take 40=l.take j:=by rw[List.take_of_length_le (by omega),List.take_of_length_le (by omega)]
  rw[he];(first | intro K ms hms hK | intro K hK | skip);refine Chain.frzVar 3 rfl rfl ?_;refine wk ?_;exact⟨.d rfl (.inl rfl),trivial⟩
theorem list09{k:Nat}(l:List At)(hk:k≤10000000)(hl:∀ a∈l,Bd k a.e.c∧(∀t∈a.e.t,Bd k t.2)∧a.e.t.length≤1000000)(hlen:l.length≤1000000):Fn Tryz.prog 78 [.d (.l (l.map enA))] [.d (.l (l.map enAQ))]:=by
 have hml:(l.map enA).length=l.length:=List.length_map ..;refine Fn.of Tryz.func78 rfl (by kernel_rfl) Tryz.ntmps78 Tryz.results78 rfl fun w0 S0=>?_;refine wk ?_;refine AC.loop (X:=Nat) (fun j=>⟨[(3,.r 6 j),(7,.d (.l (l.map enA))),(8,.d (.v (.int .i64 (l.length:Int)))),(9,.d (.v (.int .i64 (j:Int))))],[(6,.row j 177 5 ((l.take j).map enAQ))]⟩) (fun j=>j≤l.length) (fun j=>l.length-j) 0 (Nat.zero_le _) ⟨rfl,rfl,rfl,rfl,trivial⟩ ⟨rfl,trivial⟩ ?_;intro j hj;dsimp only at hj ⊢;refine wk ?_;refine s1 (fun g1=>?_) (fun g1=>?_)
 ·have hj1:j<l.length:=by omega
  have hg:l[j]?=some l[j]:=List.getElem?_eq_getElem hj1;obtain⟨q1,q2,q3⟩:=hl _ (List.getElem_mem hj1);have hts:(l.take (j+1)).map enAQ=(l.take j).map enAQ++[enAQ l[j]]:=map_snoc enAQ hj1;generalize l[j]=a at hg q1 q2 q3 hts;refine wk ?_;refine c1 (toldA a k hk q1 q2 q3) ?_;refine wk ?_;exact⟨j+1,hj1,by omega,⟨rfl,rfl,rfl,rfl,trivial⟩,⟨by rw[hts];rfl,trivial⟩⟩
 ·obtain rfl:j=l.length:=by omega
  rw[List.take_length];(first | intro K ms hms hK | intro K hK | skip);refine Chain.frzVar 3 rfl rfl ?_;refine wk ?_;exact⟨.d rfl (.inl rfl),trivial⟩
def cutP(p:PP):PP:=⟨p.box,p.ats,cutT p.bad⟩
theorem told16{k:Nat}(p:PP)(hk:k≤10000000)(hb:bdPP k p)(hl:∀ a∈p.ats,Bd k a.e.c∧(∀t∈a.e.t,Bd k t.2)∧a.e.t.length≤1000000)(hlen:p.ats.length≤1000000)(hok:okT p.bad):Fn Tryz.prog 34 [.g (enPP p)] [.g (enPQ (cutP p))]:=by
 have hL:=list09 p.ats hk hl hlen;have hT:=told11 p.bad hok;obtain⟨bx,ats,bad⟩:=p;obtain⟨hb1,hb2⟩:=hb;dsimp only at hL hT hb1 hb2;rw[show enPP ⟨bx,ats,bad⟩=[.l (bx.map enSd),.l (ats.map enA)]++enF bad from rfl,show enPQ (cutP ⟨bx,ats,bad⟩)=[.l (bx.map enSdQ),.l (ats.map enAQ)]++enF (cutT bad)from rfl];have hml:(bx.map enSd).length=bx.length:=List.length_map ..;refine Fn.of Tryz.func34 rfl (by kernel_rfl) Tryz.ntmps34 Tryz.results34 rfl fun w0 S0=>?_;refine wk ?_;refine c1 hL ?_;refine wk ?_;refine c1 hT ?_;refine wk ?_;refine AC.rowBox 3 0 20 172 6 rfl rfl rfl ?_;refine AC.loop (X:=Nat) (fun j=>⟨[(2,.p 2 0),(3,.p 3 0),(14,.d (.l (bx.map enSd))),(15,.d (.v (.int .i64 (bx.length:Int)))),(16,.d (.v (.int .i64 (j:Int))))],[(2,.box 92 [.d .n,.d .n,.d (.v (.int .i64 0)),.d (.v (.int .i64 0)),.d .n]),(3,.box 92 ([AV.r 20 j,.d (.l (ats.map enAQ))]++(enF (cutT bad)).map .d)),(20,.row j 172 6 ((bx.take j).map enSdQ))]⟩) (fun j=>j≤bx.length) (fun j=>bx.length-j) 0 (Nat.zero_le _) ⟨rfl,rfl,rfl,rfl,rfl,trivial⟩ ⟨rfl,rfl,rfl,trivial⟩ ?_;intro j hj;dsimp only at hj ⊢;refine wk ?_;refine s1 (fun g1=>?_) (fun g1=>?_)
 ·have hj1:j<bx.length:=by omega
  have hg:bx[j]?=some bx[j]:=List.getElem?_eq_getElem hj1;obtain⟨q1,q2⟩:=hb1 _ (List.getElem_mem hj1);have hts:(bx.take (j+1)).map enSdQ=(bx.take j).map enSdQ++[enQ bx[j].1++enQ bx[j].2]:=map_snoc enSdQ hj1;generalize bx[j]=s at hg q1 q2 hts;obtain⟨lo,hi⟩:=s;dsimp only at q1 q2 hts;refine wk ?_;refine c1 (told q1 hk) ?_;refine wk ?_;refine c1 (told q2 hk) ?_;refine wk ?_;exact⟨j+1,hj1,by omega,⟨rfl,rfl,rfl,rfl,rfl,trivial⟩,⟨rfl,rfl,by rw[hts];rfl,trivial⟩⟩
 ·obtain rfl:j=bx.length:=by omega
  rw[List.take_length];(first | intro K ms hms hK | intro K hK | skip);refine Chain.frzBox 3 0 rfl rfl rfl ?_;refine wk ?_;exact⟨.cn rfl rfl inferInstance rfl ⟨.inl rfl,.inl rfl,.inl rfl,.inl rfl,.inl rfl,trivial⟩,trivial⟩
end Go.Proofs.YthdkkpocihkgbaaGreatDoor
