import Derived.Test.YthdkkpocihkgbaaGreatDoorLawE
set_option maxRecDepth 100000
set_option maxHeartbeats 2000000
namespace Go.Proofs.YthdkkpocihkgbaaGreatDoor
open Go.RowKit
attribute [local irreducible] AC Do St
section
variable {p q:Rat}{k:Nat}
theorem AF(x:Nat)(hl:(ae x).length≤100000000):Fn Tryz.prog 160 [.d (aJ (ae x))] [.d (aJ (ae x))]:=by
 have:=mq (bX x) hl;rwa[ax]at this
theorem E6(x y:Nat)(hl:(ae x).length≤100000000)(hy:0<y)(hy2:y<4294967296):Fn Tryz.prog 240 [.d (aJ (ae x)),.d (.v (.int .u32 (y:Int)))] [.d (aJ (ae (x / y))),.d (.v (.int .u32 ((x % y:Nat):Int))),.d (.v (.bool true))]:=
 ⟨⟨_,Tryz.func240,by kernel_rfl,by kernel_rfl⟩,fun S w vs hS hv=>by
   obtain⟨u,v,rfl,ha,hb⟩:=hv.two;have q1:=oneU.Dx (RD.mono ha hS) (cv x);obtain⟨a1,c1,e1,_⟩:=id q1;injection e1 with e1;subst e1;have hb:RD S w v (.v (.int .u32 (y:Int))):=hb;cases hb;have:=o5 (ae x) y a1 _ c1 w q1 (by omega) hy hy2;rw[ax]at this;refine this.mono ?_;rintro e w' ⟨a,c,rfl,hx,hr⟩;refine⟨_,rfl,hx,[.slice a (ae (x / y)).length c,.int .u32 ((x % y:Nat):Int),.bool true],rfl,rfl,fun i h h'=>?_⟩
   match i,h with
   | 0,_=>exact RD.mono (oneU.Ds (fun _=>rfl) hr) yM
   | 1,_=>exact .v rfl
   | 2,_=>exact .v rfl⟩
theorem Cm(h1:Bd k p)(hk:k≤100000000):Fn Tryz.prog 118 [.g (aN p)] [.d (.v (.bool (decide (p.num<0)))),.d (aJ (ae p.num.natAbs)),.d (aJ (ae p.den))]:=x5 h1 hk
end
theorem Cb(p:Rat):Fn Tryz.prog 204 [.g (aN p)] [.d (.v (.bool (decide (p.den=1))))]:=by
 have hl:decide (p.den=1)=decide ((iG p.den).length=0):=by
  refine decide_eq_decide.2 ?_;unfold iG;split
  ·rename_i h;simp[h]
  ·rename_i h;have:0<p.den:=p.den_pos;constructor
   ·intro h2;exact absurd h2 h
   ·intro h2;have h3:ae p.den=[]:=List.eq_nil_of_length_eq_zero h2;have:=ax p.den;rw[h3]at this;simp[aa]at this;omega
 rw[hl];refine Fn.of Tryz.func204 rfl (by kernel_rfl) Tryz.ntmps204 Tryz.results204 rfl fun w0 S0=>?_;refine wk ?_;refine s1 (fun h1=>?_) (fun h1=>?_)
 ·have h2:(iG p.den).length=0:=by omega
  refine wk ?_;rw[decide_eq_true h2];exact⟨.d rfl (.inl rfl),trivial⟩
 ·have h2:¬ (iG p.den).length=0:=by omega
  refine wk ?_;rw[decide_eq_false h2];exact⟨.d rfl (.inl rfl),trivial⟩
def gh(l:List UInt8):List UInt8:=l.dropWhile fun c=>c==48
theorem kY:(⟨#[]⟩:ByteArray).toList=[]:=cJ []
theorem D8(l:List UInt8):Fn Tryz.prog 219 [.d (.v (.string (tx l))),.d (.v (.int .u8 48))] [.d (.v (.string (tx (gh l))))]:=by
 have hT:(Tryz.prog).underlying 9=some .string:=by kernel_rfl
 refine Fn.of Tryz.func219 rfl (by kernel_rfl) Tryz.ntmps219 Tryz.results219 rfl fun w0 S0=>?_;refine wk ?_;refine AC.loop (X:=List UInt8) (fun m=>⟨[(0,.d (.v (.string (tx m)))),(1,.d (.v (.int .u8 48)))],[]⟩) (fun m=>m.length≤l.length∧gh m=gh l) (fun m=>m.length) l ⟨Nat.le_refl _,rfl⟩ ⟨rfl,rfl,trivial⟩ trivial ?_;intro m ⟨hm,htr⟩;refine wk ?_;((try (first | intro K ms hms hK | intro K hK));(first | apply Ch.go | apply Ch.ah);exact rfl;exact rfl;exact Loc.bF rfl rfl hT);rw[aB];cases m with
 | nil=>
   ((try (first | intro K ms hms hK | intro K hK));(first | apply Ch.go | apply Ch.ah);exact rfl;exact rfl;exact Loc.eF rfl rfl rfl (by simp));refine wk ?_;rw[←htr];exact⟨.d rfl (.inl rfl),trivial⟩
 | cons c r=>
   have hget:(c::r)[0]?=some c:=rfl;have hlen:(c::r).length=r.length+1:=rfl;((try (first | intro K ms hms hK | intro K hK));(first | apply Ch.go | apply Ch.ah);exact rfl;exact rfl;exact Loc.eD rfl rfl rfl (by simp));refine wk ?_;((try (first | intro K ms hms hK | intro K hK));(first | apply Ch.go | apply Ch.ah);exact rfl;exact rfl;exact Loc.bV 0 rfl rfl rfl rfl hget hT);refine wk ?_;refine s1 (fun h2=>?_) (fun h2=>?_)
   ·have hc:c=48:=UInt8.toNat_inj.1 (by show c.toNat=48;omega);have htz:gh (c::r)=gh r:=by unfold gh;rw[hc];rfl
    refine wk ?_;((try (first | intro K ms hms hK | intro K hK));(first | apply Ch.go | apply Ch.ah);exact rfl;exact rfl;exact Loc.eU 1 rfl rfl rfl rfl (by simp) hT);refine wk ?_;exact⟨r,⟨by omega,by rw[←htz];exact htr⟩,by rw[hlen];omega,⟨rfl,rfl,trivial⟩,trivial⟩
   ·have hc:c≠48:=fun e=>h2 (by rw[e];rfl);have htz:gh (c::r)=c::r:=by
     unfold gh;rw[List.dropWhile_cons];simp[hc]
    rw[htz]at htr;refine wk ?_;rw[←htr];exact⟨.d rfl (.inl rfl),trivial⟩
theorem Ef(l:List UInt8):Fn Tryz.prog 241 [.d (.v (.string (tx l))),.d (.v (.string (tx [48])))] [.d (.v (.string (tx (gh l))))]:=by
 have hT:(Tryz.prog).underlying 9=some .string:=by kernel_rfl
 refine Fn.of Tryz.func241 rfl (by kernel_rfl) Tryz.ntmps241 Tryz.results241 rfl fun w0 S0=>?_;refine wk ?_;cases l with
 | nil=>
   ((try (first | intro K ms hms hK | intro K hK));(first | apply Ch.go | apply Ch.ah);exact rfl;exact rfl;exact Loc.fz (r:=true) rfl rfl rfl (by rw[cJ,kY];rfl));refine wk ?_;exact⟨.d rfl (.inl rfl),trivial⟩
 | cons c r=>
   ((try (first | intro K ms hms hK | intro K hK));(first | apply Ch.go | apply Ch.ah);exact rfl;exact rfl;exact Loc.fz (r:=false) rfl rfl rfl (by rw[cJ,kY];rfl));refine wk ?_;((try (first | intro K ms hms hK | intro K hK));(first | apply Ch.go | apply Ch.ah);exact rfl;exact rfl;exact Loc.fz (r:=false) rfl rfl rfl (by rw[cJ,kY];rfl));refine wk ?_;((try (first | intro K ms hms hK | intro K hK));(first | apply Ch.go | apply Ch.ah);exact rfl;exact rfl;exact Loc.bF rfl rfl hT);((try (first | intro K ms hms hK | intro K hK));(first | apply Ch.go | apply Ch.ah);exact rfl;exact rfl;exact Loc.ec rfl rfl rfl rfl);refine wk ?_;((try (first | intro K ms hms hK | intro K hK));(first | apply Ch.go | apply Ch.ah);exact rfl;exact rfl;exact Loc.bV 0 rfl rfl rfl rfl (rfl:[(48:UInt8)][0]?=some 48) hT);((try (first | intro K ms hms hK | intro K hK));(first | apply Ch.go | apply Ch.ah);exact rfl;exact rfl;exact Loc.eb rfl rfl rfl (by decide));refine wk ?_;((try (first | intro K ms hms hK | intro K hK));(first | apply Ch.go | apply Ch.ah);exact rfl;exact rfl;exact Loc.bV 0 rfl rfl rfl rfl (rfl:[(48:UInt8)][0]?=some 48) hT);refine c1 (D8 (c::r)) ?_;refine wk ?_;exact⟨.d rfl (.inl rfl),trivial⟩
end Go.Proofs.YthdkkpocihkgbaaGreatDoor
namespace Go.Proofs.YthdkkpocihkgbaaGreatDoor
open Go.RowKit
attribute [local irreducible] AC Do St
def dR(g j:Nat):UInt8:=UInt8.ofNat (48+g / (100000000 / 10^j) % 10)
def ic(g:Nat):List UInt8:=(List.range 9).map (dR g)
def lQ(n:Nat):List UInt8:=(bJ 1000000000 n).reverse.flatMap ic
def dc(n:Nat):List UInt8:=if n=0 then [48]else gh (lQ n)
theorem ph(g:Nat):(ic g).length=9:=by simp[ic]
theorem y5(n:Nat):(lQ n).length=9*(bJ 1000000000 n).length:=by
 unfold lQ;have e:(bJ 1000000000 n).length=(bJ 1000000000 n).reverse.length:=List.length_reverse.symm;rw[e];generalize (bJ 1000000000 n).reverse=l
 induction l with
 | nil=>rfl
 | cons g r ih=>rw[List.flatMap_cons,List.length_append,ih,ph,List.length_cons];omega
theorem nM(n:Nat):(bJ 1000000000 n).length≤2*(ae n).length:=by
 refine gP (by omega) ?_;have h1:n<4294967296^(ae n).length:=by
  have:=cg (B:=4294967296) (cv n);rwa[ax]at this
 refine Nat.lt_of_lt_of_le h1 ?_;rw[Nat.pow_mul];exact Nat.pow_le_pow_left (by omega) _
theorem lR{m:Nat}(h:m≠0):bJ 1000000000 m=m % 1000000000::bJ 1000000000 (m / 1000000000):=jt (by omega) h
theorem um{n:Nat}(h:n<256):IntKind.u8.wrap (n:Int)=n:=by
 simp[IntKind.wrap,IntKind.bits,IntKind.signed];omega
theorem mx{n:Int}(h:0≤n)(h2:n<4294967296):IntKind.wrap .u32 n=n:=by
 simp[IntKind.wrap,IntKind.bits,IntKind.signed];omega
def ij(u:Nat):List D:=[.v (.int .u32 (u:Int))]
theorem oW{m:Nat}(h:(ae m).length=0):m=0:=(iu (by omega)).1 (List.eq_nil_of_length_eq_zero h)
theorem vk{g p:Nat}(hg:g<1000000000)(_:0<p):IntKind.u32.wrap ((g:Int) / (p:Int))=((g / p:Nat):Int)∧48+((g / p:Nat):Int) % 10=((48+g / p % 10:Nat):Int):=by
 have h1:((g:Int) / (p:Int))=((g / p:Nat):Int):=by simp
 have h2:g / p≤g:=Nat.div_le_self _ _;rw[h1];refine⟨?_,by omega⟩;generalize g / p=y at h2;simp only[IntKind.wrap,IntKind.bits,IntKind.signed];simp;omega
theorem qb{j:Nat}(hj:j<9):100000000 / 10^j>0∧100000000 / 10^j / 10=100000000 / 10^(j+1)∧100000000 / 10^j<4294967296:=by
 refine⟨?_,?_,?_⟩
 ·rcases j with _ | _ | _ | _ | _ | _ | _ | _ | _ | j<;>first | decide | omega
 ·rw[Nat.div_div_eq_div_mul,Nat.pow_succ]
 ·have:=Nat.div_le_self 100000000 (10^j);omega
theorem vp(g:Nat)(j:Nat):(List.range (j+1)).map (dR g)=(List.range j).map (dR g)++[dR g j]:=by rw[List.range_succ,List.map_append];rfl
theorem wG(n:Nat)(hl:(ae n).length≤20000000):Fn Tryz.prog 205 [.d (aJ (ae n))] [.d (.v (.string (tx (dc n))))]:=by
 refine Fn.of Tryz.func205 rfl (by kernel_rfl) Tryz.ntmps205 Tryz.results205 rfl fun w0 S0=>?_;refine wk ?_;refine c1 (AF n (by omega)) ?_;refine wk ?_;refine s1 (fun h0=>?_) (fun h0=>?_)
 ·have hn:n=0:=oW (by simpa[aJ] using h0);refine wk ?_;subst hn;exact⟨.d rfl (.inl rfl),trivial⟩
 have hn:n≠0:=by
  intro e;subst e;exact h0 (by simp[ae,el])
 refine wk ?_;refine AC.j7 3 27 229 1 rfl rfl ?_;refine AC.loop (X:=Nat×List Nat×Nat) (fun x=>⟨[(0,.d (aJ (ae x.1))),(3,.r 27 x.2.2)],[(27,.row x.2.2 229 1 (x.2.1.map ij))]⟩) (fun x=>x.1≤n∧x.2.1++bJ 1000000000 x.1=bJ 1000000000 n) (fun x=>x.1) (n,[],0) ⟨Nat.le_refl _,rfl⟩ ⟨rfl,rfl,trivial⟩ ⟨rfl,trivial⟩ ?_;intro ⟨m,gs,g⟩ ⟨hm,hgs⟩;dsimp only at hm hgs ⊢;refine wk ?_;refine s1 (fun h1=>?_) (fun h1=>?_)
 ·have hm0:m≠0:=by
   intro e;subst e;simp[ae,el]at h1
  have hlm:(ae m).length≤100000000:=Nat.le_trans (bN (by omega) hm) (by have:=hl;unfold ae at this;omega);have hlen:(gs++bJ 1000000000 m).length≤40000000:=by rw[hgs];have:=nM n;omega
  rw[lR hm0]at hgs hlen;simp only[List.length_append,List.length_cons]at hlen;refine wk ?_;refine c1 (E6 m 1000000000 hlm (by omega) (by omega)) ?_;refine wk ?_;exact⟨(m / 1000000000,gs++[m % 1000000000],g+1),⟨by dsimp only;exact Nat.le_trans (Nat.div_le_self _ _) hm,by dsimp only;rw[List.append_assoc];exact hgs⟩,by dsimp only;exact Nat.div_lt_self (Nat.pos_of_ne_zero hm0) (by omega),⟨rfl,rfl,trivial⟩,⟨by dsimp only;rw[List.map_append];rfl,trivial⟩⟩
 ·have hm0:m=0:=oW (by omega);subst hm0;rw[el,List.append_nil]at hgs;subst hgs;have hgl:=nM n;have hgd:∀ u∈bJ 1000000000 n,u<1000000000:=fun u hu=>kz (by omega) n u hu;have hraw:dc n=gh ((bJ 1000000000 n).reverse.flatMap ic):=if_neg hn;generalize bJ 1000000000 n=G at*;have hgm:(G.map ij).length=G.length:=List.length_map ..;have hlen:∀ k,((G.drop k).reverse.flatMap ic).length≤360000000:=fun k=>by
   have h1:∀ l:List Nat,(l.flatMap ic).length=9*l.length:=fun l=>by
    induction l with
    | nil=>rfl
    | cons g r ih=>rw[List.flatMap_cons,List.length_append,ih,ph,List.length_cons];omega
   rw[h1,List.length_reverse,List.length_drop];omega
  have hGb:G.length≤40000000:=by omega
  clear hgl hl hm;refine wk ?_;refine AC.br 3 rfl rfl ?_;refine AC.j7 7 51 5 1 rfl rfl ?_;refine AC.loop (X:=Nat×Nat) (fun x=>⟨[(3,.d (.l (G.map ij))),(7,.r 51 x.2),(8,.d (.v (.int .i64 ((x.1:Int)-1))))],[(51,.row x.2 5 1 (((G.drop x.1).reverse.flatMap ic).map de))]⟩) (fun x=>x.1≤G.length) (fun x=>x.1) ((G.map ij).length,0) (Nat.le_of_eq hgm) ⟨rfl,rfl,rfl,trivial⟩ ⟨by dsimp only;rw[hgm,List.drop_length];rfl,trivial⟩ ?_;intro ⟨k,g2⟩ hk;dsimp only at hk ⊢;refine wk ?_;refine s1 (fun h2=>?_) (fun h2=>?_)
  ·obtain⟨i,rfl⟩:∃ i,k=i+1:=⟨k-1,by omega⟩
   have hi:i<G.length:=by omega
   have hget:G[i]?=some G[i]:=List.getElem?_eq_getElem hi;have hgu:=hgd _ (List.getElem_mem hi);have hdr:(G.drop i).reverse.flatMap ic=(G.drop (i+1)).reverse.flatMap ic++ic G[i]:=by
    rw[List.drop_eq_getElem_cons hi,List.reverse_cons,List.flatMap_append];simp
   have hle:=hlen i;rw[hdr]at hle;generalize G[i]=u at hget hgu hdr hle;generalize (G.drop (i+1)).reverse.flatMap ic=base at hdr hle ⊢;rw[List.length_append,ph]at hle;have h90:((100000000 / 10^0:Nat):Int)=100000000:=by decide
   refine wk ?_;refine AC.loop (X:=Nat×Nat) (fun x=>⟨[(3,.d (.l (G.map ij))),(7,.r 51 x.2),(8,.d (.v (.int .i64 (((i+1:Nat):Int)-1)))),(9,.d (.v (.int .u32 ((100000000 / 10^x.1:Nat):Int))))],[(51,.row x.2 5 1 ((base++(List.range x.1).map (dR u)).map de))]⟩) (fun x=>x.1≤9) (fun x=>9-x.1) (0,g2) (Nat.zero_le _) ⟨rfl,rfl,rfl,by dsimp only;rw[h90];rfl,trivial⟩ ⟨by dsimp only;rw[List.range_zero,List.map_nil,List.append_nil];rfl,trivial⟩ ?_;intro ⟨j,g3⟩ hj;dsimp only at hj ⊢;refine wk ?_;refine s1 (fun h3=>?_) (fun h3=>?_)
   ·have hj9:j<9:=by
     rcases Nat.lt_or_ge j 9 with h | h
     ·exact h
     ·have:j=9:=by omega
      subst this;exact absurd h3 (by decide)
    obtain⟨p1,p2,p3⟩:=qb hj9;have hrs:=vp u j;have hbl:(base++(List.range j).map (dR u)).length≤360000000:=by simp;omega
    have hnd:dR u j=UInt8.ofNat (48+u / (100000000 / 10^j) % 10):=rfl;generalize 100000000 / 10^j=p at p1 p2 p3 hnd;obtain⟨a1,a2⟩:=vk hgu p1;have hcv:IntKind.u8.wrap (48+((u / p:Nat):Int) % 10)=((dR u j).toNat:Int):=by
     have h2:(dR u j).toNat=48+u / p % 10:=by rw[hnd,UInt8.toNat_ofNat'];omega
     rw[a2,um (by omega),h2]
    have hcv2:IntKind.u32.wrap (48+((u / p:Nat):Int) % 10)=48+((u / p:Nat):Int) % 10:=mx (by omega) (by omega);have hq1:((u:Nat):Int) / ((p:Nat):Int)=((u / p:Nat):Int):=by simp
    have hq2:((p:Nat):Int) / 10=((100000000 / 10^(j+1):Nat):Int):=by rw[←p2];simp
    refine wk ?_;((try (first | intro K ms hms hK | intro K hK));(first | apply Ch.go | apply Ch.ah);exact rfl;exact rfl;exact Loc.ea (i:=i) rfl rfl rfl (by omega) hget rfl);refine wk ?_;((try (first | intro K ms hms hK | intro K hK));(first | apply Ch.go | apply Ch.ah);exact rfl;exact rfl;exact Loc.quo rfl rfl rfl (by omega) (by omega) a1);rw[hq1];((try (first | intro K ms hms hK | intro K hK));(first | apply Ch.go | apply Ch.ah);exact rfl;exact rfl;exact Loc.rem rfl rfl rfl (Int.natCast_nonneg _) (by decide));((try (first | intro K ms hms hK | intro K hK));(first | apply Ch.go | apply Ch.ah);exact rfl;exact rfl;exact Loc.add rfl rfl rfl hcv2);((try (first | intro K ms hms hK | intro K hK));(first | apply Ch.go | apply Ch.ah);exact rfl;exact rfl;exact Loc.conv rfl rfl hcv);refine wk ?_;((try (first | intro K ms hms hK | intro K hK));(first | apply Ch.go | apply Ch.ah);exact rfl;exact rfl;exact Loc.quo rfl rfl rfl (by omega) (by omega) (mx (by omega) (by omega)));rw[hq2];refine wk ?_;refine⟨(j+1,g3+1),by dsimp only;omega,by dsimp only;omega,⟨rfl,rfl,rfl,rfl,trivial⟩,⟨?_,trivial⟩⟩;dsimp only;rw[hrs,←List.append_assoc,List.map_append (l₁:=base++_)];rfl
   ·have hj9:j=9:=by
     rcases Nat.lt_or_ge j 9 with h | h
     ·have:=(qb h).1;omega
     ·omega
    subst hj9;refine wk ?_;exact⟨(i,g3),by dsimp only;omega,by dsimp only;omega,⟨rfl,rfl,congrArg (fun z=>some (AV.d (D.v (Value.int .i64 z)))) (by dsimp only;omega),trivial⟩,⟨by dsimp only;rw[hdr];rfl,trivial⟩⟩
  ·have hk0:k=0:=by omega
   subst hk0;rw[List.drop_zero];refine wk ?_;(first | intro K ms hms hK | intro K hK);refine Ch.br 52 rfl rfl ?_;((try (first | intro K ms hms hK | intro K hK));(first | apply Ch.go | apply Ch.ah);exact rfl;exact rfl;exact Loc.toStr (e:=5) rfl rfl (by kernel_rfl) (by kernel_rfl) (by kernel_rfl));refine c1 (Ef (G.reverse.flatMap ic)) ?_;refine wk ?_;rw[hraw];exact⟨.d rfl (.inl rfl),trivial⟩
end Go.Proofs.YthdkkpocihkgbaaGreatDoor
namespace Go.Proofs.YthdkkpocihkgbaaGreatDoor
open Go.RowKit
def aR(a:Nat)(l:List UInt8):Nat:=l.foldl (fun a c=>a*10+(c.toNat-48)) a
theorem pw(a:Nat)(l m:List UInt8):aR a (l++m)=aR (aR a l) m:=by simp[aR,List.foldl_append]
theorem wS(l:List UInt8):aR 0 (gh l)=aR 0 l:=by
 induction l with
 | nil=>rfl
 | cons c r ih=>
   unfold gh at ih ⊢;rw[List.dropWhile_cons];split
   ·rename_i h;have hc:c=48:=by simpa using h
    rw[ih,hc];rfl
   ·rfl
theorem yK(g j:Nat):(dR g j).toNat=48+g / (100000000 / 10^j) % 10:=by
 unfold dR;rw[UInt8.toNat_ofNat'];omega
theorem yo(a:Nat){g:Nat}(h:g<1000000000):aR a (ic g)=a*1000000000+g:=by
 have e:ic g=[dR g 0,dR g 1,dR g 2,dR g 3,dR g 4,dR g 5,dR g 6,dR g 7,dR g 8]:=rfl;rw[e];simp only[aR,List.foldl_cons,List.foldl_nil,yK,Nat.add_sub_cancel_left];simp only[Nat.reducePow,Nat.reduceDiv];omega
theorem zz(n:Nat):aR 0 (lQ n)=n:=by
 induction n using Nat.strongRecOn with
 | _ n ih=>
   by_cases h:n=0
   ·subst h;simp[lQ,el,aR]
   ·have e:lQ n=lQ (n / 1000000000)++ic (n % 1000000000):=by
     unfold lQ;rw[lR h,List.reverse_cons,List.flatMap_append];simp
    rw[e,pw,ih _ (Nat.div_lt_self (by omega) (by omega)),yo _ (Nat.mod_lt _ (by omega))];omega
theorem xy(n:Nat):aR 0 (dc n)=n:=by
 unfold dc;split
 ·rename_i h;subst h;rfl
 ·rw[wS,zz]
def bD(c:UInt8):Prop:=48≤c.toNat∧c.toNat≤57
theorem zO(n:Nat):dc n≠[]:=fun e=>by
 have h:=xy n;rw[e]at h;have h:0=n:=h;subst h;simp[dc]at e
theorem rV(n:Nat):(dc n).length≤18*(ae n).length+1:=by
 unfold dc;split
 ·simp
 ·have h1:=(List.dropWhile_sublist (fun c:UInt8=>c==48) (l:=lQ n)).length_le;have h2:=y5 n;have h3:=nM n;unfold gh;omega
def cr(q:Rat):List UInt8:=(if q.num<0 then [45]else [])++(dc q.num.natAbs++(if q.den=1 then []else 47::dc q.den))
end Go.Proofs.YthdkkpocihkgbaaGreatDoor
namespace Go.Proofs.YthdkkpocihkgbaaGreatDoor
open Go.RowKit
attribute [local irreducible] AC Do St
theorem eu{n k:Nat}(h:n<2^k):(ae n).length≤k / 32+1:=by
 refine gP (by omega) (Nat.lt_of_lt_of_le h ?_);rw[show 4294967296=2^32 by decide,←Nat.pow_mul];exact Nat.pow_le_pow_right (by omega) (by omega)
def nZ(p:Rat):List UInt8:=if p.num<0 then [45]else []
def tt(p:Rat):List UInt8:=if p.den=1 then []else dc p.den
theorem C2{k:Nat}{p:Rat}(h:Bd k p)(hk:k≤100000000):Fn Tryz.prog 158 [.g (aN p)] [.d (.v (.string (tx (nZ p)))),.d (.v (.string (tx (dc p.num.natAbs)))),.d (.v (.string (tx (tt p))))]:=by
 have l1:=eu h.1;have l2:=eu h.2;refine Fn.of Tryz.func158 rfl (by kernel_rfl) Tryz.ntmps158 Tryz.results158 rfl fun w0 S0=>?_;refine wk ?_;refine c1 (Cm h hk) ?_;refine wk ?_;refine AC.join (X:=Unit) (fun _=>⟨[(1,.p 1 0),(6,.d (aJ (ae p.num.natAbs))),(7,.d (aJ (ae p.den))),(8,.d (.v (.string (tx (nZ p))))),(9,.d (.v (.string (tx []))))],[(1,.box 119 ((aN p).map .d))]⟩) (fun _=>True) ?_ ?_
 ·cases hs:decide (p.num<0)with
  | true=>
    have e:nZ p=[45]:=if_pos (of_decide_eq_true hs);rw[e];refine wk ?_;exact⟨(),trivial,⟨rfl,rfl,rfl,rfl,rfl,trivial⟩,⟨rfl,trivial⟩⟩
  | false=>
    have e:nZ p=[]:=if_neg (of_decide_eq_false hs);rw[e];refine wk ?_;exact⟨(),trivial,⟨rfl,rfl,rfl,rfl,rfl,trivial⟩,⟨rfl,trivial⟩⟩
 ·intro _ _;refine wk ?_;refine c1 (Cb p) ?_;refine wk ?_;cases hd:decide (p.den=1)with
  | true=>
    have e:tt p=[]:=if_pos (of_decide_eq_true hd);refine wk ?_;refine c1 (wG p.num.natAbs (by omega)) ?_;refine wk ?_;rw[e];exact⟨.d rfl (.inl rfl),.d rfl (.inl rfl),.d rfl (.inl rfl),trivial⟩
  | false=>
    have e:tt p=dc p.den:=if_neg (of_decide_eq_false hd);refine wk ?_;refine c1 (wG p.den (by omega)) ?_;refine wk ?_;refine c1 (wG p.num.natAbs (by omega)) ?_;refine wk ?_;rw[e];exact⟨.d rfl (.inl rfl),.d rfl (.inl rfl),.d rfl (.inl rfl),trivial⟩
theorem C6{k:Nat}{p:Rat}(h:Bd k p)(hk:k≤100000000):Fn Tryz.prog 100 [.g (aN p)] [.d (.v (.string (tx (cr p))))]:=by
 have l1:=eu h.1;have l2:=eu h.2;have t1:=rV p.num.natAbs;have t2:=rV p.den;have t0:(nZ p).length≤1:=by unfold nZ;split<;>simp
 refine Fn.of Tryz.func100 rfl (by kernel_rfl) Tryz.ntmps100 Tryz.results100 rfl fun w0 S0=>?_;refine wk ?_;refine c1 (C2 h hk) ?_;refine wk ?_;by_cases hd:p.den=1
 ·have e:tt p=[]:=if_pos hd;have e2:cr p=nZ p++dc p.num.natAbs:=by unfold cr;rw[if_pos hd,List.append_nil];rfl
  rw[e];((try (first | intro K ms hms hK | intro K hK));(first | apply Ch.go | apply Ch.ah);exact rfl;exact rfl;exact Loc.fz (r:=true) rfl rfl rfl (by rw[cJ,kY];rfl));refine wk ?_;((try (first | intro K ms hms hK | intro K hK));(first | apply Ch.go | apply Ch.ah);exact rfl;exact rfl;exact Loc.lb rfl rfl rfl (by rw[aB,aB];omega));refine wk ?_;rw[kL,←e2];exact⟨.d rfl (.inl rfl),trivial⟩
 ·have e:tt p=dc p.den:=if_neg hd;have e2:cr p=((nZ p++dc p.num.natAbs)++[47])++dc p.den:=by unfold cr;rw[if_neg hd,List.append_assoc,List.append_assoc];rfl
  rw[e];((try (first | intro K ms hms hK | intro K hK));(first | apply Ch.go | apply Ch.ah);exact rfl;exact rfl;exact Loc.fz (r:=false) rfl rfl rfl (by rw[cJ,kY];simp[zO]));refine wk ?_;((try (first | intro K ms hms hK | intro K hK));(first | apply Ch.go | apply Ch.ah);exact rfl;exact rfl;exact Loc.lb rfl rfl rfl (by rw[aB,aB];omega));rw[kL];((try (first | intro K ms hms hK | intro K hK));(first | apply Ch.go | apply Ch.ah);exact rfl;exact rfl;exact Loc.lb (t:=tx [47]) rfl rfl rfl (by rw[aB,aB,List.length_append];simp;omega));rw[kL];refine wk ?_;((try (first | intro K ms hms hK | intro K hK));(first | apply Ch.go | apply Ch.ah);exact rfl;exact rfl;exact Loc.lb rfl rfl rfl (by rw[aB,aB,List.length_append,List.length_append];simp;omega));refine wk ?_;rw[kL,←e2];exact⟨.d rfl (.inl rfl),trivial⟩
