import Derived.Test.YthdkkpocihkgbaaGreatDoorPpJ
import Derived.Test.YthdkkpocihkgbaaGreatDoorPpK
import Derived.Test.YthdkkpocihkgbaaGreatDoorPpL
import Derived.Test.YthdkkpocihkgbaaGreatDoorPpM
import Derived.Test.YthdkkpocihkgbaaGreatDoorPpCN
import Derived.Test.YthdkkpocihkgbaaGreatDoorPpCA
import Derived.Test.YthdkkpocihkgbaaGreatDoorPpCO
set_option maxRecDepth 100000
set_option maxHeartbeats 64000000
namespace Go.Proofs.YthdkkpocihkgbaaGreatDoor
open Go.RowKit
attribute [local irreducible] AC Do St
theorem D9(i:Int)(p:PP)(hat:∀ a∈p.ats,lnE 10000000 a.e)(w v:List UInt8)(hl:List ST)(t:List ST)(hop:v=[60,61]∨v=[62,61]∨v=[60]∨v=[62]∨v=[61])(hnt:∀ x∈t,gM x)(hst:∀ x∈t,gL x)(hcw:aK t+bI t≤6001)(f:FT)(n:Nat)(hn:n+1≤1000000):Fn Tryz.prog 97 [.g (aq (.mk false w (.mk true v hl::t))),.d (.v (.int .i64 i)),.g (dN p),.g (aM f),.d (.v (.int .i64 (n:Int)))] [.d (.v (.int .i64 (pe i p.ats v f n t)))]:=by
 rw[bE];have hl0:(ST.mk true v hl::t).length=t.length+1:=List.length_cons ..;have hg0:(ST.mk true v hl::t)[0]?=some (.mk true v hl):=rfl;have hml:(t.map aq).length=t.length:=List.length_map ..;have hdr:((ST.mk true v hl::t).map aq).drop 1=t.map aq:=rfl;have hcl:=cj t;by_cases h2:t.length=2
 ·obtain⟨x,y,rfl⟩:∃ x y,t=[x,y]:=by
   match t,h2 with
   | [x,y],_=>exact⟨x,y,rfl⟩
  rw[aj,aj,bd,aA,aA,cT]at hcw;have hg1:[x,y][0]?=some x:=rfl;have hg2:[x,y][1]?=some y:=rfl;have hi1:Fn Tryz.prog 60 [.d (.v (.int .i64 1))] [.g (aS 1)]:=by
   have:=pB 1 (by decide) (by decide);rwa[show ((1:Int):Rat)=1 from rfl]at this
  have hi2:Fn Tryz.prog 60 [.d (.v (.int .i64 (-1)))] [.g (aS (-1))]:=by
   have:=pB (-1) (by decide) (by decide);rwa[show ((-1:Int):Rat)= -1 from rfl]at this
  obtain⟨k,hk⟩:∃ k:Rat,(if v.head?=some 62 then-1 else 1)=k:=⟨_,rfl⟩
  have hd:(v=[60,61]∧k=1∧dh v=1∧v[0]?=some 60∧v≠[110,111,116]∧v≠[97,110,100]∧v≠[111,114]∧v≠[62,61]∧v≠[60]∧v≠[62]∧v≠[61])∨(v=[62,61]∧k= -1∧dh v=1∧v[0]?=some 62∧v≠[110,111,116]∧v≠[97,110,100]∧v≠[111,114]∧v≠[60,61]∧v≠[60]∧v≠[62]∧v≠[61])∨(v=[60]∧k=1∧dh v=2∧v[0]?=some 60∧v≠[110,111,116]∧v≠[97,110,100]∧v≠[111,114]∧v≠[60,61]∧v≠[62,61]∧v≠[62]∧v≠[61])∨(v=[62]∧k= -1∧dh v=2∧v[0]?=some 62∧v≠[110,111,116]∧v≠[97,110,100]∧v≠[111,114]∧v≠[60,61]∧v≠[62,61]∧v≠[60]∧v≠[61])∨(v=[61]∧k=1∧dh v=3∧v[0]?=some 61∧v≠[110,111,116]∧v≠[97,110,100]∧v≠[111,114]∧v≠[60,61]∧v≠[62,61]∧v≠[60]∧v≠[62]):=by
   rcases hop with rfl | rfl | rfl | rfl | rfl
   ·exact .inl ⟨rfl,hk.symm.trans (if_neg (by decide)),rfl,rfl,by decide,by decide,by decide,by decide,by decide,by decide,by decide⟩
   ·exact .inr (.inl ⟨rfl,hk.symm.trans (if_pos rfl),rfl,rfl,by decide,by decide,by decide,by decide,by decide,by decide,by decide⟩)
   ·exact .inr (.inr (.inl ⟨rfl,hk.symm.trans (if_neg (by decide)),rfl,rfl,by decide,by decide,by decide,by decide,by decide,by decide,by decide⟩))
   ·exact .inr (.inr (.inr (.inl ⟨rfl,hk.symm.trans (if_pos rfl),rfl,rfl,by decide,by decide,by decide,by decide,by decide,by decide,by decide⟩)))
   ·exact .inr (.inr (.inr (.inr ⟨rfl,hk.symm.trans (if_neg (by decide)),rfl,rfl,by decide,by decide,by decide,by decide,by decide,by decide,by decide⟩)))
  have hbk:bz k=1:=by
   rw[←hk];split
   ·exact gK
   ·exact uk
  have hneg:=wZ k;have hgl:=E0 i hbk (hnt x (by simp)) (hnt y (by simp)) (by omega);have hy2:=yr (x:=x) (y:=y) (by omega);obtain⟨fx,hx1,hx2⟩:=Av i _ x (Nat.lt_succ_self _) (hst x (by simp));obtain⟨fy,hy1,hy3⟩:=Av i _ y (Nat.lt_succ_self _) (hst y (by simp));have e0:bz (⟨[],0⟩:Ex).c=1:=dX;obtain⟨b1,b2,b3⟩:=nE i _ x (Nat.lt_succ_self _) k ⟨[],0⟩;rw[hbk]at b1 b3;have e1:(⟨[],0⟩:Ex).t.length=0:=rfl;have hX:=hx2 k ⟨[],0⟩ none rfl (by rw[hbk];omega) (by omega);have hv2:vO (if fx=true then some (aP i x k ⟨[],0⟩).1.c else none)=(aP i x k ⟨[],0⟩).1.c:=sH rfl fun hh=>hx1 hh k _;have hY:=hy3 (-k) (aP i x k ⟨[],0⟩).1 _ hv2 (by rw[fC,hbk];omega) (by omega);have hv3:=sH hv2 fun hh=>hy1 hh (-k) (aP i x k ⟨[],0⟩).1;show Fn _ _ _ [.d (.v (.int .i64 (j4 ((aP i x (if v.head?=some 62 then-1 else 1) ⟨[],0⟩).2&&(aP i y (-(if v.head?=some 62 then-1 else 1)) (aP i x (if v.head?=some 62 then-1 else 1) ⟨[],0⟩).1).2) (f.k=1∧f.a=n∧(n:Int)<p.ats.length∧∃ a,p.ats[(n:Int).toNat]?=some a∧a.op=dh v∧Form a.e.t∧gW a.e (aP i y (-(if v.head?=some 62 then-1 else 1)) (aP i x (if v.head?=some 62 then-1 else 1) ⟨[],0⟩).1).1=true) n)))];rw[hk];clear hk hx1 hx2 hy1 hy3 b1 b2 b3 hy2 hcw hst hnt hcl hbk;generalize (if fy=true then some (aP i y (-k) (aP i x k ⟨[],0⟩).1).1.c else if fx=true then some (aP i x k ⟨[],0⟩).1.c else none)=o2 at*;generalize (if fx=true then some (aP i x k ⟨[],0⟩).1.c else none)=o1 at*;generalize aP i x k ⟨[],0⟩=r1 at*;obtain⟨f1,ok1⟩:=r1
  dsimp only at*;generalize aP i y (-k) f1=r2 at*;obtain⟨g,ok2⟩:=r2;dsimp only at*;clear hv2;have H:CmH i v x y k f1 g o1 o2 ok1 ok2:=⟨hd,hneg,hX,hY,hi1,hi2⟩
  clear hd hneg hX hY hi1 hi2;cases ok1 with
  | false=>
    rw[show ∀q:Prop,j4 (false&&ok2) q n= -1 from fun q=>by unfold j4;rw[Bool.false_and,if_neg (by decide)]];exact FX H p w hl f n hn rfl
  | true=>
  cases ok2 with
  | false=>
    rw[show ∀q:Prop,j4 (true&&false) q n= -1 from fun q=>by unfold j4;rw[Bool.and_false,if_neg (by decide)]];exact FN H p w hl f n hn rfl rfl
  | true=>
    have nay:∀ {q:Prop},¬q→j4 (true&&true) q n= -2:=fun h=>by unfold j4;rw[Bool.and_self,if_pos rfl,if_neg h]
    by_cases a1:f.k=1
    rotate_left
    ·rw[nay fun h=>a1 h.1];exact FP H p w hl f n hn rfl rfl a1
    by_cases a2:f.a=(n:Int)
    rotate_left
    ·rw[nay fun h=>a2 h.2.1];exact FI H p w hl f n hn rfl rfl a1 a2
    by_cases a3:n<p.ats.length
    rotate_left
    ·rw[nay fun h=>a3 (by have:=h.2.2.1;omega)];exact FO H p w hl f n hn rfl rfl a1 a2 (by omega)
    have hga:p.ats[n]?=some p.ats[n]:=List.getElem?_eq_getElem a3;have hla:=hat _ (List.getElem_mem a3);have hex:∀ (a:At) (O:Int),p.ats[n]?=some a→(∃b,p.ats[(n:Int).toNat]?=some b∧b.op=O∧Form b.e.t∧gW b.e g=true)→a.op=O∧Form a.e.t∧gW a.e g=true:=fun a O h ⟨b,h1,h2⟩=>by
     rw[Int.toNat_natCast,h]at h1;cases h1;exact h2
    have hex2:∀ (a:At) (O:Int),p.ats[n]?=some a→a.op=O∧Form a.e.t∧gW a.e g=true→∃ b,p.ats[(n:Int).toNat]?=some b∧b.op=O∧Form b.e.t∧gW b.e g=true:=fun a O h h2=>⟨a,by rw[Int.toNat_natCast,h],h2⟩
    generalize p.ats[n]=a at hga hla;by_cases a4:a.op=dh v
    rotate_left
    ·rw[nay fun h=>a4 (hex a _ hga h.2.2.2).1];exact FW H p w hl f n hn rfl rfl a1 a2 a3 a hga a4
    have hsame:=Ca a.e g o2 hv3 hla hgl (Nat.le_refl _)
    haveI:=Classical.propDecidable (Form a.e.t)
    have hform:=Eo a.e hla.n;by_cases a5:Form a.e.t
    rotate_left
    ·rw[nay fun h=>a5 (hex a _ hga h.2.2.2).2.1];rw[decide_eq_false a5]at hform;exact FR H p w hl f n hn rfl rfl a1 a2 a3 a hga a4 hform
    rw[decide_eq_true a5]at hform;cases a6:gW a.e g with
    | false=>
      rw[nay fun h=>by have:=(hex a _ hga h.2.2.2).2.2;rw[a6]at this;cases this];rw[a6]at hsame;exact FQ H p w hl f n hn rfl rfl a1 a2 a3 a hga a4 hform hsame
    | true=>
      rw[show j4 (true&&true) _ (n:Int)=n+1 from vH ⟨a1,a2,by omega,hex2 a _ hga ⟨a4,a5,a6⟩⟩];rw[a6]at hsame;exact F3 H p w hl f n hn rfl rfl a1 a2 a3 a hga a4 hform hsame
 ·rw[show pe i p.ats v f n t= -1 from by
   unfold pe;split
   ·exact absurd rfl h2
   ·rfl]
  have hd:(v=[60,61]∧v≠[110,111,116]∧v≠[97,110,100]∧v≠[111,114]∧v≠[62,61]∧v≠[60]∧v≠[62]∧v≠[61])∨(v=[62,61]∧v≠[110,111,116]∧v≠[97,110,100]∧v≠[111,114]∧v≠[60,61]∧v≠[60]∧v≠[62]∧v≠[61])∨(v=[60]∧v≠[110,111,116]∧v≠[97,110,100]∧v≠[111,114]∧v≠[60,61]∧v≠[62,61]∧v≠[62]∧v≠[61])∨(v=[62]∧v≠[110,111,116]∧v≠[97,110,100]∧v≠[111,114]∧v≠[60,61]∧v≠[62,61]∧v≠[60]∧v≠[61])∨(v=[61]∧v≠[110,111,116]∧v≠[97,110,100]∧v≠[111,114]∧v≠[60,61]∧v≠[62,61]∧v≠[60]∧v≠[62]):=by
   rcases hop with rfl | rfl | rfl | rfl | rfl
   ·exact .inl ⟨rfl,by decide,by decide,by decide,by decide,by decide,by decide,by decide⟩
   ·exact .inr (.inl ⟨rfl,by decide,by decide,by decide,by decide,by decide,by decide,by decide⟩)
   ·exact .inr (.inr (.inl ⟨rfl,by decide,by decide,by decide,by decide,by decide,by decide,by decide⟩))
   ·exact .inr (.inr (.inr (.inl ⟨rfl,by decide,by decide,by decide,by decide,by decide,by decide,by decide⟩)))
   ·exact .inr (.inr (.inr (.inr ⟨rfl,by decide,by decide,by decide,by decide,by decide,by decide,by decide⟩)))
  rcases hd with ⟨hv,m1,m2,m3,m4,m5,m6,m7⟩ | ⟨hv,m1,m2,m3,m4,m5,m6,m7⟩ | ⟨hv,m1,m2,m3,m4,m5,m6,m7⟩ | ⟨hv,m1,m2,m3,m4,m5,m6,m7⟩ | ⟨hv,m1,m2,m3,m4,m5,m6,m7⟩
  all_goals
   refine Fn.of Tryz.func97 rfl (by kernel_rfl) Tryz.ntmps97 Tryz.results97 rfl fun w0 S0=>?_;refine wa ?_;((try (first | intro K ms hms hK | intro K hK));(first | apply Ch.go | apply Ch.ah);exact rfl;exact rfl;exact Loc.cC 1 rfl rfl rfl rfl (by simp) (cI _));rw[hdr];refine wa ?_;exact⟨.d rfl (.inl rfl),trivial⟩
theorem yP(i:Int)(p:PP)(hat:∀ a∈p.ats,lnE 10000000 a.e):∀ (m:Nat) (s:ST),wX s<m→gM s→gL s→cX s+wX s≤6001→∀ (f:FT) (n:Nat),n+cX s≤1000000→Fn Tryz.prog 97 [.g (aq s),.d (.v (.int .i64 i)),.g (dN p),.g (aM f),.d (.v (.int .i64 (n:Int)))] [.d (.v (.int .i64 (cK i p.ats s f n)))]:=by
 intro m
 induction m with
 | zero=>intro s h;omega
 | succ m ih=>
 intro s hm hnf hsw hcw f n hn;have ih:=ih;obtain⟨b,w,l⟩:=s;rw[fA]at hnf;rw[fB]at hsw;rw[aY,bt]at hcw;rw[bt]at hm;rw[aY]at hn;rw[bE];cases b with
 | true=>
   rw[sJ];by_cases t1:w=[116,114,117,101]
   ·rw[if_pos t1];have t2:w≠[102,97,108,115,101]:=fun h=>by rw[h]at t1;cases t1
    by_cases k5:f.k=5
    ·rw[if_pos k5];refine Fn.of Tryz.func97 rfl (by kernel_rfl) Tryz.ntmps97 Tryz.results97 rfl fun w0 S0=>?_;refine wa ?_;exact⟨.d rfl (.inl rfl),trivial⟩
    ·rw[if_neg k5];by_cases k6:f.k=6
     all_goals
      refine Fn.of Tryz.func97 rfl (by kernel_rfl) Tryz.ntmps97 Tryz.results97 rfl fun w0 S0=>?_;refine wa ?_;exact⟨.d rfl (.inl rfl),trivial⟩
   rw[if_neg t1];by_cases t2:w=[102,97,108,115,101]
   ·rw[if_pos t2];by_cases k6:f.k=6
    ·rw[if_pos k6];refine Fn.of Tryz.func97 rfl (by kernel_rfl) Tryz.ntmps97 Tryz.results97 rfl fun w0 S0=>?_;refine wa ?_;exact⟨.d rfl (.inl rfl),trivial⟩
    ·rw[if_neg k6];by_cases k5:f.k=5
     all_goals
      refine Fn.of Tryz.func97 rfl (by kernel_rfl) Tryz.ntmps97 Tryz.results97 rfl fun w0 S0=>?_;refine wa ?_;exact⟨.d rfl (.inl rfl),trivial⟩
   ·rw[if_neg t2];refine Fn.of Tryz.func97 rfl (by kernel_rfl) Tryz.ntmps97 Tryz.results97 rfl fun w0 S0=>?_;refine wa ?_;exact⟨.d rfl (.inl rfl),trivial⟩
 | false=>
 cases l with
 | nil=>
   rw[xm];have hl0:([]:List ST).length=0:=rfl;refine Fn.of Tryz.func97 rfl (by kernel_rfl) Tryz.ntmps97 Tryz.results97 rfl fun w0 S0=>?_;refine wa ?_;exact⟨.d rfl (.inl rfl),trivial⟩
 | cons h t=>
 rw[sE];obtain⟨hb1,v,hl⟩:=h;have hl0:(ST.mk hb1 v hl::t).length=t.length+1:=List.length_cons ..;have hg0:(ST.mk hb1 v hl::t)[0]?=some (.mk hb1 v hl):=rfl;have hml:(t.map aq).length=t.length:=List.length_map ..;cases hb1 with
 | false=>
   rw[if_neg (show ¬(ST.mk false v hl).b=true from fun h=>nomatch h)];refine Fn.of Tryz.func97 rfl (by kernel_rfl) Tryz.ntmps97 Tryz.results97 rfl fun w0 S0=>?_;refine wa ?_;exact⟨.d rfl (.inl rfl),trivial⟩
 | true=>
 rw[if_pos (show (ST.mk true v hl).b=true from rfl)];show Fn _ _ _ [.d (.v (.int .i64 (if aD v≠0 then(if aD v=2∧t.length≠1 then-1 else cP i p.ats t f.s (!(decide (f.k=aD v)&&decide (f.s.length=t.length))) n)else if dh v=0 then-1 else pe i p.ats v f n t)))];have hdr:((ST.mk true v hl::t).map aq).drop 1=t.map aq:=rfl;rw[aA,aj]at hcw;rw[aA]at hm;rw[aj]at hn;have hwp:=jd (.mk true v hl);have hcp:=jZ (.mk true v hl);have hcl:=cj t;have hnt:∀ x∈t,gM x:=fun x hx=>bQ hnf.2.2 x (List.mem_cons_of_mem _ hx);have hst:∀ x∈t,gL x:=fun x hx=>ca hsw.2 x (List.mem_cons_of_mem _ hx);by_cases hc:v=[110,111,116]∨v=[97,110,100]∨v=[111,114]
 ·have hne:∀ kd:Int,aD v=kd→kd=2∨kd=3∨kd=4→aD v≠0:=fun kd e h=>by omega
  obtain⟨fk,fa,fs⟩:=f;rw[gu];have hsml:(fs.map aM).length=fs.length:=List.length_map ..;show Fn _ _ _ [.d (.v (.int .i64 (if aD v≠0 then(if aD v=2∧t.length≠1 then-1 else cP i p.ats t fs (!(decide (fk=aD v)&&decide (fs.length=t.length))) n)else if dh v=0 then-1 else pe i p.ats v (.mk fk fa fs) n t)))];obtain⟨kd,hkd,hk3⟩:∃ kd:Int,aD v=kd∧((v=[110,111,116]∧kd=2)∨(v=[97,110,100]∧kd=3∧v≠[110,111,116])∨(v=[111,114]∧kd=4∧v≠[110,111,116]∧v≠[97,110,100])):=by
   rcases hc with rfl | rfl | rfl
   ·exact⟨2,rfl,.inl ⟨rfl,rfl⟩⟩
   ·exact⟨3,rfl,.inr (.inl ⟨rfl,rfl,by decide⟩)⟩
   ·exact⟨4,rfl,.inr (.inr ⟨rfl,rfl,by decide,by decide⟩)⟩
  rw[hkd,if_pos (by omega)];clear hc hne hkd;by_cases h21:kd=2∧t.length≠1
  ·rw[if_pos h21];obtain⟨rfl,hl1⟩:=h21;obtain⟨rfl,_⟩:v=[110,111,116]∧True:=by
    rcases hk3 with h | h | h
    ·exact⟨h.1,trivial⟩
    ·exact absurd h.2.1 (by decide)
    ·exact absurd h.2.1 (by decide)
   refine Fn.of Tryz.func97 rfl (by kernel_rfl) Tryz.ntmps97 Tryz.results97 rfl fun w0 S0=>?_;refine wa ?_;((try (first | intro K ms hms hK | intro K hK));(first | apply Ch.go | apply Ch.ah);exact rfl;exact rfl;exact Loc.cC 1 rfl rfl rfl rfl (by simp) (cI _));rw[hdr];refine wa ?_;exact⟨.d rfl (.inl rfl),trivial⟩
  rw[if_neg h21];have hq:∀ x∈t,∀(g:FT) (n':Nat),n'+cX x≤1000000→Fn Tryz.prog 97 [.g (aq x),.d (.v (.int .i64 i)),.g (dN p),.g (aM g),.d (.v (.int .i64 (n':Int)))] [.d (.v (.int .i64 (cK i p.ats x g n')))]:=fun x hx g n' hn'=>ih x (by have:=(aO hx).1;omega) (hnt x hx) (hst x hx) (by have:=aO hx;omega) g n' hn';clear ih hnt hst hcw hm hnf hsw;have hn':n+aK t≤1000000:=by omega
  have ho:∃ o:Bool,(!(decide (fk=kd)&&decide (fs.length=t.length)))=o∧((fk≠kd∧o=true)∨(fk=kd∧fs.length≠t.length∧o=true)∨(fk=kd∧fs.length=t.length∧o=false)):=by
   by_cases k1:fk=kd
   ·by_cases k2:fs.length=t.length
    ·exact⟨false,by simp[k1,k2],.inr (.inr ⟨k1,k2,rfl⟩)⟩
    ·exact⟨true,by simp[k2],.inr (.inl ⟨k1,k2,rfl⟩)⟩
   ·exact⟨true,by simp[k1],.inl ⟨k1,rfl⟩⟩
  obtain⟨o,ho1,ho2⟩:=ho;rw[ho1];have h1t:kd=2→t.length=1:=fun e=>Classical.byContradiction fun h=>h21 ⟨e,h⟩;rcases hk3 with ⟨hv,rfl⟩ | ⟨hv,rfl,m1⟩ | ⟨hv,rfl,m1,m2⟩
  ·exact F0 n hv (h1t rfl) hq hn' ho2
  ·exact FJ n hv m1 hq hn' ho2
  ·exact FK n hv m1 m2 hq hn' ho2
 have hk0:aD v=0:=by
  unfold aD;rw[if_neg fun h=>hc (.inl h),if_neg fun h=>hc (.inr (.inl h)),if_neg fun h=>hc (.inr (.inr h))]
 rw[if_neg (by rw[hk0];simp)];by_cases hop:v=[60,61]∨v=[62,61]∨v=[60]∨v=[62]∨v=[61]
 ·rw[if_neg (by rcases hop with rfl | rfl | rfl | rfl | rfl<;>decide)];have:=D9 i p hat w v hl t hop hnt hst (by omega) f n (by omega);rw[bE]at this;exact this
 ·have n1:v≠[60,61]:=fun h=>hop (.inl h);have n2:v≠[62,61]:=fun h=>hop (.inr (.inl h));have n3:v≠[60]:=fun h=>hop (.inr (.inr (.inl h)));have n4:v≠[62]:=fun h=>hop (.inr (.inr (.inr (.inl h))));have n5:v≠[61]:=fun h=>hop (.inr (.inr (.inr (.inr h))));have c1':v≠[110,111,116]:=fun h=>hc (.inl h);have c2':v≠[97,110,100]:=fun h=>hc (.inr (.inl h));have c3':v≠[111,114]:=fun h=>hc (.inr (.inr h));rw[if_pos (by unfold dh;rw[if_neg (fun h=>h.elim n1 n2),if_neg (fun h=>h.elim n3 n4),if_neg n5])];clear ih;refine Fn.of Tryz.func97 rfl (by kernel_rfl) Tryz.ntmps97 Tryz.results97 rfl fun w0 S0=>?_;refine wa ?_;((try (first | intro K ms hms hK | intro K hK));(first | apply Ch.go | apply Ch.ah);exact rfl;exact rfl;exact Loc.cC 1 rfl rfl rfl rfl (by simp) (cI _));rw[hdr];refine wa ?_;exact⟨.d rfl (.inl rfl),trivial⟩
