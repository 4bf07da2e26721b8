import Derived.Test.YtbbpecfapohlaaaGreatDoorK3
import Derived.Test.YtbbpecfapohlaaaGreatDoorLawE
set_option maxRecDepth 100000
set_option maxHeartbeats 2000000
namespace Go.Proofs.YtbbpecfapohlaaaGreatDoor
open Go.RowKit
attribute [local irreducible] AC Do St
section
variable {p q:Rat}{k:Nat}
theorem normU(x:Nat)(hl:(limbs x).length≤100000000):Fn Tryz.prog 211 [.d (enL (limbs x))] [.d (enL (limbs x))]:=by
 have:=normG (limbsDg x) hl;rwa[limbs_val]at this
theorem divU(x y:Nat)(hl:(limbs x).length≤100000000)(hy:0<y)(hy2:y<4294967296):Fn Tryz.prog 253 [.d (enL (limbs x)),.d (.v (.int .u32 (y:Int)))] [.d (enL (limbs (x / y))),.d (.v (.int .u32 ((x % y:Nat):Int))),.d (.v (.bool true))]:=
 ⟨⟨_,Tryz.func253,by kernel_rfl,by kernel_rfl⟩,fun S w vs hS hv=>by
   obtain⟨u,v,rfl,ha,hb⟩:=hv.two;have q1:=oneU.ofRD (RD.mono ha hS) (limbs_dg x);obtain⟨a1,c1,e1,_⟩:=id q1;injection e1 with e1;subst e1;have hb:RD S w v (.v (.int .u32 (y:Int))):=hb;cases hb;have:=divword_any (limbs x) y a1 _ c1 w q1 (by omega) hy hy2;rw[limbs_val]at this;refine this.mono ?_;rintro e w' ⟨a,c,rfl,hx,hr⟩;refine⟨_,rfl,hx,[.slice a (limbs (x / y)).length c,.int .u32 ((x % y:Nat):Int),.bool true],rfl,rfl,fun i h h'=>?_⟩
   match i,h with
   | 0,_=>exact RD.mono (oneU.toRD (fun _=>rfl) hr) mo_res
   | 1,_=>exact .v rfl
   | 2,_=>exact .v rfl⟩
theorem partsU(h1:Bd k p)(hk:k≤100000000):Fn Tryz.prog 135 [.g (enR p)] [.d (.v (.bool (decide (p.num<0)))),.d (enL (limbs p.num.natAbs)),.d (enL (limbs p.den))]:=partsR h1 hk
end
theorem wholeU(p:Rat):Fn Tryz.prog 222 [.g (enR p)] [.d (.v (.bool (decide (p.den=1))))]:=by
 have hl:decide (p.den=1)=decide ((denL p.den).length=0):=by
  refine decide_eq_decide.2 ?_;unfold denL;split
  ·rename_i h;simp[h]
  ·rename_i h;have:0<p.den:=p.den_pos;constructor
   ·intro h2;exact absurd h2 h
   ·intro h2;have h3:limbs p.den=[]:=List.eq_nil_of_length_eq_zero h2;have:=limbs_val p.den;rw[h3]at this;simp[dval]at this;omega
 rw[hl];refine Fn.of Tryz.func222 rfl (by kernel_rfl) Tryz.ntmps222 Tryz.results222 rfl fun w0 S0=>?_;refine wk ?_;refine s1 (fun h1=>?_) (fun h1=>?_)
 ·have h2:(denL p.den).length=0:=by omega
  refine wk ?_;rw[decide_eq_true h2];exact⟨.d rfl (.inl rfl),trivial⟩
 ·have h2:¬ (denL p.den).length=0:=by omega
  refine wk ?_;rw[decide_eq_false h2];exact⟨.d rfl (.inl rfl),trivial⟩
def trimZ(l:List UInt8):List UInt8:=l.dropWhile fun c=>c==48
theorem tx_nil:(⟨#[]⟩:ByteArray).toList=[]:=tx_list []
theorem trimB(l:List UInt8):Fn Tryz.prog 286 [.d (.v (.string (tx l))),.d (.v (.int .u8 48))] [.d (.v (.string (tx (trimZ l))))]:=by
 have hT:(Tryz.prog).underlying 9=some .string:=by kernel_rfl
 refine Fn.of Tryz.func286 rfl (by kernel_rfl) Tryz.ntmps286 Tryz.results286 rfl fun w0 S0=>?_;refine wk ?_;refine AC.loop (X:=List UInt8) (fun m=>⟨[(0,.d (.v (.string (tx m)))),(1,.d (.v (.int .u8 48)))],[]⟩) (fun m=>m.length≤l.length∧trimZ m=trimZ l) (fun m=>m.length) l ⟨Nat.le_refl _,rfl⟩ ⟨rfl,rfl,trivial⟩ trivial ?_;intro m ⟨hm,htr⟩;refine wk ?_;((try (first | intro K ms hms hK | intro K hK));(first | apply Chain.go | apply Chain.goD);exact rfl;exact rfl;exact Loc.strLen rfl rfl hT);rw[tx_size];cases m with
 | nil=>
   ((try (first | intro K ms hms hK | intro K hK));(first | apply Chain.go | apply Chain.goD);exact rfl;exact rfl;exact Loc.gtrF rfl rfl rfl (by simp));refine wk ?_;rw[←htr];exact⟨.d rfl (.inl rfl),trivial⟩
 | cons c r=>
   have hget:(c::r)[0]?=some c:=rfl;have hlen:(c::r).length=r.length+1:=rfl;((try (first | intro K ms hms hK | intro K hK));(first | apply Chain.go | apply Chain.goD);exact rfl;exact rfl;exact Loc.gtrT rfl rfl rfl (by simp));refine wk ?_;((try (first | intro K ms hms hK | intro K hK));(first | apply Chain.go | apply Chain.goD);exact rfl;exact rfl;exact Loc.strAt 0 rfl rfl rfl rfl hget hT);refine wk ?_;refine s1 (fun h2=>?_) (fun h2=>?_)
   ·have hc:c=48:=UInt8.toNat_inj.1 (by show c.toNat=48;omega);have htz:trimZ (c::r)=trimZ r:=by unfold trimZ;rw[hc];rfl
    refine wk ?_;((try (first | intro K ms hms hK | intro K hK));(first | apply Chain.go | apply Chain.goD);exact rfl;exact rfl;exact Loc.strFrom 1 rfl rfl rfl rfl (by simp) hT);refine wk ?_;exact⟨r,⟨by omega,by rw[←htz];exact htr⟩,by rw[hlen];omega,⟨rfl,rfl,trivial⟩,trivial⟩
   ·have hc:c≠48:=fun e=>h2 (by rw[e];rfl);have htz:trimZ (c::r)=c::r:=by
     unfold trimZ;rw[List.dropWhile_cons];simp[hc]
    rw[htz]at htr;refine wk ?_;rw[←htr];exact⟨.d rfl (.inl rfl),trivial⟩
theorem trimF(l:List UInt8):Fn Tryz.prog 254 [.d (.v (.string (tx l))),.d (.v (.string (tx [48])))] [.d (.v (.string (tx (trimZ l))))]:=by
 have hT:(Tryz.prog).underlying 9=some .string:=by kernel_rfl
 refine Fn.of Tryz.func254 rfl (by kernel_rfl) Tryz.ntmps254 Tryz.results254 rfl fun w0 S0=>?_;refine wk ?_;cases l with
 | nil=>
   ((try (first | intro K ms hms hK | intro K hK));(first | apply Chain.go | apply Chain.goD);exact rfl;exact rfl;exact Loc.strEq (r:=true) rfl rfl rfl (by rw[tx_list,tx_nil];rfl));refine wk ?_;exact⟨.d rfl (.inl rfl),trivial⟩
 | cons c r=>
   ((try (first | intro K ms hms hK | intro K hK));(first | apply Chain.go | apply Chain.goD);exact rfl;exact rfl;exact Loc.strEq (r:=false) rfl rfl rfl (by rw[tx_list,tx_nil];rfl));refine wk ?_;((try (first | intro K ms hms hK | intro K hK));(first | apply Chain.go | apply Chain.goD);exact rfl;exact rfl;exact Loc.strEq (r:=false) rfl rfl rfl (by rw[tx_list,tx_nil];rfl));refine wk ?_;((try (first | intro K ms hms hK | intro K hK));(first | apply Chain.go | apply Chain.goD);exact rfl;exact rfl;exact Loc.strLen rfl rfl hT);((try (first | intro K ms hms hK | intro K hK));(first | apply Chain.go | apply Chain.goD);exact rfl;exact rfl;exact Loc.eqlT rfl rfl rfl rfl);refine wk ?_;((try (first | intro K ms hms hK | intro K hK));(first | apply Chain.go | apply Chain.goD);exact rfl;exact rfl;exact Loc.strAt 0 rfl rfl rfl rfl (rfl:[(48:UInt8)][0]?=some 48) hT);((try (first | intro K ms hms hK | intro K hK));(first | apply Chain.go | apply Chain.goD);exact rfl;exact rfl;exact Loc.lssT rfl rfl rfl (by decide));refine wk ?_;((try (first | intro K ms hms hK | intro K hK));(first | apply Chain.go | apply Chain.goD);exact rfl;exact rfl;exact Loc.strAt 0 rfl rfl rfl rfl (rfl:[(48:UInt8)][0]?=some 48) hT);refine c1 (trimB (c::r)) ?_;refine wk ?_;exact⟨.d rfl (.inl rfl),trivial⟩
end Go.Proofs.YtbbpecfapohlaaaGreatDoor
namespace Go.Proofs.YtbbpecfapohlaaaGreatDoor
open Go.RowKit
attribute [local irreducible] AC Do St
def nineD(g j:Nat):UInt8:=UInt8.ofNat (48+g / (100000000 / 10^j) % 10)
def nine(g:Nat):List UInt8:=(List.range 9).map (nineD g)
def rawT(n:Nat):List UInt8:=(digs 1000000000 n).reverse.flatMap nine
def textL(n:Nat):List UInt8:=if n=0 then [48]else trimZ (rawT n)
theorem nine_len(g:Nat):(nine g).length=9:=by simp[nine]
theorem rawT_len(n:Nat):(rawT n).length=9*(digs 1000000000 n).length:=by
 unfold rawT;have e:(digs 1000000000 n).length=(digs 1000000000 n).reverse.length:=List.length_reverse.symm;rw[e];generalize (digs 1000000000 n).reverse=l
 induction l with
 | nil=>rfl
 | cons g r ih=>rw[List.flatMap_cons,List.length_append,ih,nine_len,List.length_cons];omega
theorem digs9_len(n:Nat):(digs 1000000000 n).length≤2*(limbs n).length:=by
 refine digs_len (by omega) ?_;have h1:n<4294967296^(limbs n).length:=by
  have:=dval_lt (B:=4294967296) (limbs_dg n);rwa[limbs_val]at this
 refine Nat.lt_of_lt_of_le h1 ?_;rw[Nat.pow_mul];exact Nat.pow_le_pow_left (by omega) _
theorem digs9_split{m:Nat}(h:m≠0):digs 1000000000 m=m % 1000000000::digs 1000000000 (m / 1000000000):=digs_pos (by omega) h
theorem u8_wrap_nat9{n:Nat}(h:n<256):IntKind.u8.wrap (n:Int)=n:=by
 simp[IntKind.wrap,IntKind.bits,IntKind.signed];omega
theorem wrap_u32{n:Int}(h:0≤n)(h2:n<4294967296):IntKind.wrap .u32 n=n:=by
 simp[IntKind.wrap,IntKind.bits,IntKind.signed];omega
def enW3(u:Nat):List D:=[.v (.int .u32 (u:Int))]
theorem limbs_len_z{m:Nat}(h:(limbs m).length=0):m=0:=(digs_eq_nil (by omega)).1 (List.eq_nil_of_length_eq_zero h)
theorem textF_arith{g p:Nat}(hg:g<1000000000)(_:0<p):IntKind.u32.wrap ((g:Int) / (p:Int))=((g / p:Nat):Int)∧48+((g / p:Nat):Int) % 10=((48+g / p % 10:Nat):Int):=by
 have h1:((g:Int) / (p:Int))=((g / p:Nat):Int):=by simp
 have h2:g / p≤g:=Nat.div_le_self _ _;rw[h1];refine⟨?_,by omega⟩;generalize g / p=y at h2;simp only[IntKind.wrap,IntKind.bits,IntKind.signed];simp;omega
theorem pow10_step{j:Nat}(hj:j<9):100000000 / 10^j>0∧100000000 / 10^j / 10=100000000 / 10^(j+1)∧100000000 / 10^j<4294967296:=by
 refine⟨?_,?_,?_⟩
 ·rcases j with _ | _ | _ | _ | _ | _ | _ | _ | _ | j<;>first | decide | omega
 ·rw[Nat.div_div_eq_div_mul,Nat.pow_succ]
 ·have:=Nat.div_le_self 100000000 (10^j);omega
theorem rangeM_succ(g:Nat)(j:Nat):(List.range (j+1)).map (nineD g)=(List.range j).map (nineD g)++[nineD g j]:=by rw[List.range_succ,List.map_append];rfl
theorem textF(n:Nat)(hl:(limbs n).length≤20000000):Fn Tryz.prog 223 [.d (enL (limbs n))] [.d (.v (.string (tx (textL n))))]:=by
 refine Fn.of Tryz.func223 rfl (by kernel_rfl) Tryz.ntmps223 Tryz.results223 rfl fun w0 S0=>?_;refine wk ?_;refine c1 (normU n (by omega)) ?_;refine wk ?_;refine s1 (fun h0=>?_) (fun h0=>?_)
 ·have hn:n=0:=limbs_len_z (by simpa[enL] using h0);refine wk ?_;subst hn;exact⟨.d rfl (.inl rfl),trivial⟩
 have hn:n≠0:=by
  intro e;subst e;exact h0 (by simp[limbs,digs_zero])
 refine wk ?_;refine AC.rowVar 3 27 225 1 rfl rfl ?_;refine AC.loop (X:=Nat×List Nat×Nat) (fun x=>⟨[(0,.d (enL (limbs x.1))),(3,.r 27 x.2.2)],[(27,.row x.2.2 225 1 (x.2.1.map enW3))]⟩) (fun x=>x.1≤n∧x.2.1++digs 1000000000 x.1=digs 1000000000 n) (fun x=>x.1) (n,[],0) ⟨Nat.le_refl _,rfl⟩ ⟨rfl,rfl,trivial⟩ ⟨rfl,trivial⟩ ?_;intro ⟨m,gs,g⟩ ⟨hm,hgs⟩;dsimp only at hm hgs ⊢;refine wk ?_;refine s1 (fun h1=>?_) (fun h1=>?_)
 ·have hm0:m≠0:=by
   intro e;subst e;simp[limbs,digs_zero]at h1
  have hlm:(limbs m).length≤100000000:=Nat.le_trans (digs_len_mono (by omega) hm) (by have:=hl;unfold limbs at this;omega);have hlen:(gs++digs 1000000000 m).length≤40000000:=by rw[hgs];have:=digs9_len n;omega
  rw[digs9_split hm0]at hgs hlen;simp only[List.length_append,List.length_cons]at hlen;refine wk ?_;refine c1 (divU m 1000000000 hlm (by omega) (by omega)) ?_;refine wk ?_;exact⟨(m / 1000000000,gs++[m % 1000000000],g+1),⟨by dsimp only;exact Nat.le_trans (Nat.div_le_self _ _) hm,by dsimp only;rw[List.append_assoc];exact hgs⟩,by dsimp only;exact Nat.div_lt_self (Nat.pos_of_ne_zero hm0) (by omega),⟨rfl,rfl,trivial⟩,⟨by dsimp only;rw[List.map_append];rfl,trivial⟩⟩
 ·have hm0:m=0:=limbs_len_z (by omega);subst hm0;rw[digs_zero,List.append_nil]at hgs;subst hgs;have hgl:=digs9_len n;have hgd:∀ u∈digs 1000000000 n,u<1000000000:=fun u hu=>digs_dg (by omega) n u hu;have hraw:textL n=trimZ ((digs 1000000000 n).reverse.flatMap nine):=if_neg hn;generalize digs 1000000000 n=G at*;have hgm:(G.map enW3).length=G.length:=List.length_map ..;have hlen:∀ k,((G.drop k).reverse.flatMap nine).length≤360000000:=fun k=>by
   have h1:∀ l:List Nat,(l.flatMap nine).length=9*l.length:=fun l=>by
    induction l with
    | nil=>rfl
    | cons g r ih=>rw[List.flatMap_cons,List.length_append,ih,nine_len,List.length_cons];omega
   rw[h1,List.length_reverse,List.length_drop];omega
  have hGb:G.length≤40000000:=by omega
  clear hgl hl hm;refine wk ?_;refine AC.frzVar 3 rfl rfl ?_;refine AC.rowVar 7 51 5 1 rfl rfl ?_;refine AC.loop (X:=Nat×Nat) (fun x=>⟨[(3,.d (.l (G.map enW3))),(7,.r 51 x.2),(8,.d (.v (.int .i64 ((x.1:Int)-1))))],[(51,.row x.2 5 1 (((G.drop x.1).reverse.flatMap nine).map enBy))]⟩) (fun x=>x.1≤G.length) (fun x=>x.1) ((G.map enW3).length,0) (Nat.le_of_eq hgm) ⟨rfl,rfl,rfl,trivial⟩ ⟨by dsimp only;rw[hgm,List.drop_length];rfl,trivial⟩ ?_;intro ⟨k,g2⟩ hk;dsimp only at hk ⊢;refine wk ?_;refine s1 (fun h2=>?_) (fun h2=>?_)
  ·obtain⟨i,rfl⟩:∃ i,k=i+1:=⟨k-1,by omega⟩
   have hi:i<G.length:=by omega
   have hget:G[i]?=some G[i]:=List.getElem?_eq_getElem hi;have hgu:=hgd _ (List.getElem_mem hi);have hdr:(G.drop i).reverse.flatMap nine=(G.drop (i+1)).reverse.flatMap nine++nine G[i]:=by
    rw[List.drop_eq_getElem_cons hi,List.reverse_cons,List.flatMap_append];simp
   have hle:=hlen i;rw[hdr]at hle;generalize G[i]=u at hget hgu hdr hle;generalize (G.drop (i+1)).reverse.flatMap nine=base at hdr hle ⊢;rw[List.length_append,nine_len]at hle;have h90:((100000000 / 10^0:Nat):Int)=100000000:=by decide
   refine wk ?_;refine AC.loop (X:=Nat×Nat) (fun x=>⟨[(3,.d (.l (G.map enW3))),(7,.r 51 x.2),(8,.d (.v (.int .i64 (((i+1:Nat):Int)-1)))),(9,.d (.v (.int .u32 ((100000000 / 10^x.1:Nat):Int))))],[(51,.row x.2 5 1 ((base++(List.range x.1).map (nineD u)).map enBy))]⟩) (fun x=>x.1≤9) (fun x=>9-x.1) (0,g2) (Nat.zero_le _) ⟨rfl,rfl,rfl,by dsimp only;rw[h90];rfl,trivial⟩ ⟨by dsimp only;rw[List.range_zero,List.map_nil,List.append_nil];rfl,trivial⟩ ?_;intro ⟨j,g3⟩ hj;dsimp only at hj ⊢;refine wk ?_;refine s1 (fun h3=>?_) (fun h3=>?_)
   ·have hj9:j<9:=by
     rcases Nat.lt_or_ge j 9 with h | h
     ·exact h
     ·have:j=9:=by omega
      subst this;exact absurd h3 (by decide)
    obtain⟨p1,p2,p3⟩:=pow10_step hj9;have hrs:=rangeM_succ u j;have hbl:(base++(List.range j).map (nineD u)).length≤360000000:=by simp;omega
    have hnd:nineD u j=UInt8.ofNat (48+u / (100000000 / 10^j) % 10):=rfl;generalize 100000000 / 10^j=p at p1 p2 p3 hnd;obtain⟨a1,a2⟩:=textF_arith hgu p1;have hcv:IntKind.u8.wrap (48+((u / p:Nat):Int) % 10)=((nineD u j).toNat:Int):=by
     have h2:(nineD u j).toNat=48+u / p % 10:=by rw[hnd,UInt8.toNat_ofNat'];omega
     rw[a2,u8_wrap_nat9 (by omega),h2]
    have hcv2:IntKind.u32.wrap (48+((u / p:Nat):Int) % 10)=48+((u / p:Nat):Int) % 10:=wrap_u32 (by omega) (by omega);have hq1:((u:Nat):Int) / ((p:Nat):Int)=((u / p:Nat):Int):=by simp
    have hq2:((p:Nat):Int) / 10=((100000000 / 10^(j+1):Nat):Int):=by rw[←p2];simp
    refine wk ?_;((try (first | intro K ms hms hK | intro K hK));(first | apply Chain.go | apply Chain.goD);exact rfl;exact rfl;exact Loc.idxM (i:=i) rfl rfl rfl (by omega) hget rfl);refine wk ?_;((try (first | intro K ms hms hK | intro K hK));(first | apply Chain.go | apply Chain.goD);exact rfl;exact rfl;exact Loc.quo rfl rfl rfl (by omega) (by omega) a1);rw[hq1];((try (first | intro K ms hms hK | intro K hK));(first | apply Chain.go | apply Chain.goD);exact rfl;exact rfl;exact Loc.rem rfl rfl rfl (Int.natCast_nonneg _) (by decide));((try (first | intro K ms hms hK | intro K hK));(first | apply Chain.go | apply Chain.goD);exact rfl;exact rfl;exact Loc.add rfl rfl rfl hcv2);((try (first | intro K ms hms hK | intro K hK));(first | apply Chain.go | apply Chain.goD);exact rfl;exact rfl;exact Loc.conv rfl rfl hcv);refine wk ?_;((try (first | intro K ms hms hK | intro K hK));(first | apply Chain.go | apply Chain.goD);exact rfl;exact rfl;exact Loc.quo rfl rfl rfl (by omega) (by omega) (wrap_u32 (by omega) (by omega)));rw[hq2];refine wk ?_;refine⟨(j+1,g3+1),by dsimp only;omega,by dsimp only;omega,⟨rfl,rfl,rfl,rfl,trivial⟩,⟨?_,trivial⟩⟩;dsimp only;rw[hrs,←List.append_assoc,List.map_append (l₁:=base++_)];rfl
   ·have hj9:j=9:=by
     rcases Nat.lt_or_ge j 9 with h | h
     ·have:=(pow10_step h).1;omega
     ·omega
    subst hj9;refine wk ?_;exact⟨(i,g3),by dsimp only;omega,by dsimp only;omega,⟨rfl,rfl,congrArg (fun z=>some (AV.d (D.v (Value.int .i64 z)))) (by dsimp only;omega),trivial⟩,⟨by dsimp only;rw[hdr];rfl,trivial⟩⟩
  ·have hk0:k=0:=by omega
   subst hk0;rw[List.drop_zero];refine wk ?_;(first | intro K ms hms hK | intro K hK);refine Chain.frzVar 52 rfl rfl ?_;((try (first | intro K ms hms hK | intro K hK));(first | apply Chain.go | apply Chain.goD);exact rfl;exact rfl;exact Loc.toStr (e:=5) rfl rfl (by kernel_rfl) (by kernel_rfl) (by kernel_rfl));refine c1 (trimF (G.reverse.flatMap nine)) ?_;refine wk ?_;rw[hraw];exact⟨.d rfl (.inl rfl),trivial⟩
end Go.Proofs.YtbbpecfapohlaaaGreatDoor
namespace Go.Proofs.YtbbpecfapohlaaaGreatDoor
open Go.RowKit
def valF(a:Nat)(l:List UInt8):Nat:=l.foldl (fun a c=>a*10+(c.toNat-48)) a
theorem valF_app(a:Nat)(l m:List UInt8):valF a (l++m)=valF (valF a l) m:=by simp[valF,List.foldl_append]
theorem valF_trimZ(l:List UInt8):valF 0 (trimZ l)=valF 0 l:=by
 induction l with
 | nil=>rfl
 | cons c r ih=>
   unfold trimZ at ih ⊢;rw[List.dropWhile_cons];split
   ·rename_i h;have hc:c=48:=by simpa using h
    rw[ih,hc];rfl
   ·rfl
theorem nineD_nat(g j:Nat):(nineD g j).toNat=48+g / (100000000 / 10^j) % 10:=by
 unfold nineD;rw[UInt8.toNat_ofNat'];omega
theorem valF_nine(a:Nat){g:Nat}(h:g<1000000000):valF a (nine g)=a*1000000000+g:=by
 have e:nine g=[nineD g 0,nineD g 1,nineD g 2,nineD g 3,nineD g 4,nineD g 5,nineD g 6,nineD g 7,nineD g 8]:=rfl;rw[e];simp only[valF,List.foldl_cons,List.foldl_nil,nineD_nat,Nat.add_sub_cancel_left];simp only[Nat.reducePow,Nat.reduceDiv];omega
theorem valF_raw(n:Nat):valF 0 (rawT n)=n:=by
 induction n using Nat.strongRecOn with
 | _ n ih=>
   by_cases h:n=0
   ·subst h;simp[rawT,digs_zero,valF]
   ·have e:rawT n=rawT (n / 1000000000)++nine (n % 1000000000):=by
     unfold rawT;rw[digs9_split h,List.reverse_cons,List.flatMap_append];simp
    rw[e,valF_app,ih _ (Nat.div_lt_self (by omega) (by omega)),valF_nine _ (Nat.mod_lt _ (by omega))];omega
theorem textL_val(n:Nat):valF 0 (textL n)=n:=by
 unfold textL;split
 ·rename_i h;subst h;rfl
 ·rw[valF_trimZ,valF_raw]
theorem textL_inj{n m:Nat}(h:textL n=textL m):n=m:=by rw[←textL_val n,h,textL_val]
def DigC(c:UInt8):Prop:=48≤c.toNat∧c.toNat≤57
theorem rawT_dig(n:Nat):∀ c∈rawT n,DigC c:=fun c hc=>by
 unfold rawT at hc;obtain⟨g,_,hg⟩:=List.mem_flatMap.1 hc;obtain⟨j,_,rfl⟩:=List.mem_map.1 hg;unfold DigC;rw[nineD_nat];omega
theorem textL_dig(n:Nat):∀ c∈textL n,DigC c:=fun c hc=>by
 unfold textL at hc;split at hc
 ·rw[List.mem_singleton.1 hc];exact⟨by decide,by decide⟩
 ·exact rawT_dig n c ((List.dropWhile_sublist _).subset hc)
theorem textL_ne(n:Nat):textL n≠[]:=fun e=>by
 have h:=textL_val n;rw[e]at h;have h:0=n:=h;subst h;simp[textL]at e
theorem textL_len(n:Nat):(textL n).length≤18*(limbs n).length+1:=by
 unfold textL;split
 ·simp
 ·have h1:=(List.dropWhile_sublist (fun c:UInt8=>c==48) (l:=rawT n)).length_le;have h2:=rawT_len n;have h3:=digs9_len n;unfold trimZ;omega
def printL(q:Rat):List UInt8:=(if q.num<0 then [45]else [])++(textL q.num.natAbs++(if q.den=1 then []else 47::textL q.den))
theorem split_uniq{α:Type}{c:α}{a b x y:List α}(ha:c∉a)(hb:c∉b)(h:a++c::x=b++c::y):a=b∧x=y:=by
 induction a generalizing b with
 | nil=>
   cases b with
   | nil=>simpa using h
   | cons z r=>simp at h;exact absurd (by simp[h.1]) hb
 | cons z r ih=>
   cases b with
   | nil=>simp at h;exact absurd (by simp[h.1]) ha
   | cons z' r'=>
     simp at h;obtain⟨h1,h2⟩:=ih (b:=r') (fun e=>ha (by simp[e])) (fun e=>hb (by simp[e])) h.2;exact⟨by rw[h.1,h1],h2⟩
theorem textL_no{c:UInt8}(n:Nat)(h:¬DigC c):c∉textL n:=fun e=>h (textL_dig n c e)
theorem no47:¬DigC 47:=by unfold DigC;decide
theorem no45:¬DigC 45:=by unfold DigC;decide
theorem no32:¬DigC 32:=by unfold DigC;decide
theorem body_inj{a b c d:Nat}(h:textL a++(if b=1 then []else 47::textL b)=textL c++(if d=1 then []else 47::textL d)):a=c∧b=d:=by
 by_cases hb:b=1<;>by_cases hd:d=1
 ·rw[if_pos hb,if_pos hd,List.append_nil,List.append_nil]at h;exact⟨textL_inj h,by omega⟩
 ·rw[if_pos hb,if_neg hd,List.append_nil]at h;exact absurd (by rw[h];simp) (textL_no a no47)
 ·rw[if_neg hb,if_pos hd,List.append_nil]at h;exact absurd (by rw[←h];simp) (textL_no c no47)
 ·rw[if_neg hb,if_neg hd]at h;obtain⟨h1,h2⟩:=split_uniq (textL_no a no47) (textL_no c no47) h;exact⟨textL_inj h1,textL_inj h2⟩
theorem printL_no{c:UInt8}(q:Rat)(h:¬DigC c)(h45:c≠45)(h47:c≠47):c∉printL q:=fun e=>by
 unfold printL at e;rcases List.mem_append.1 e with e | e
 ·split at e
  ·exact h45 (List.mem_singleton.1 e)
  ·simp at e
 ·rcases List.mem_append.1 e with e | e
  ·exact textL_no _ h e
  ·split at e
   ·simp at e
   ·rcases List.mem_cons.1 e with e | e
    ·exact h47 e
    ·exact textL_no _ h e
theorem printL_inj{p q:Rat}(h:printL p=printL q):p=q:=by
 unfold printL at h;have key:(p.num<0↔q.num<0)∧textL p.num.natAbs++(if p.den=1 then []else 47::textL p.den)=textL q.num.natAbs++(if q.den=1 then []else 47::textL q.den):=by
  have head:∀ (a:Nat) (t r:List UInt8),textL a++t≠45::r:=fun a t r e=>by
   cases ht:textL a with
   | nil=>exact textL_ne a ht
   | cons z w=>
     rw[ht]at e;simp at e;exact textL_no a no45 (by rw[ht,e.1];simp)
  by_cases hp:p.num<0<;>by_cases hq:q.num<0
  ·rw[if_pos hp,if_pos hq]at h;exact⟨by simp[hp,hq],by simpa using h⟩
  ·rw[if_pos hp,if_neg hq]at h;exact absurd h.symm (head _ _ _)
  ·rw[if_neg hp,if_pos hq]at h;exact absurd h (head _ _ _)
  ·rw[if_neg hp,if_neg hq]at h;exact⟨by simp[hp,hq],by simpa using h⟩
 obtain⟨h1,h2⟩:=key;obtain⟨h3,h4⟩:=body_inj h2;have h5:p.num=q.num:=by omega
 exact Rat.ext h5 h4
theorem printL_len(q:Rat):(printL q).length≤36*((limbs q.num.natAbs).length+(limbs q.den).length)+4:=by
 have h1:=textL_len q.num.natAbs;have h2:=textL_len q.den;unfold printL;simp only[List.length_append];split<;>split<;>simp<;>omega
end Go.Proofs.YtbbpecfapohlaaaGreatDoor
namespace Go.Proofs.YtbbpecfapohlaaaGreatDoor
open Go.RowKit
attribute [local irreducible] AC Do St
theorem limbs_len_bd{n k:Nat}(h:n<2^k):(limbs n).length≤k / 32+1:=by
 refine digs_len (by omega) (Nat.lt_of_lt_of_le h ?_);rw[show 4294967296=2^32 by decide,←Nat.pow_mul];exact Nat.pow_le_pow_right (by omega) (by omega)
def sgnL(p:Rat):List UInt8:=if p.num<0 then [45]else []
def lowL(p:Rat):List UInt8:=if p.den=1 then []else textL p.den
theorem partsF{k:Nat}{p:Rat}(h:Bd k p)(hk:k≤100000000):Fn Tryz.prog 150 [.g (enR p)] [.d (.v (.string (tx (sgnL p)))),.d (.v (.string (tx (textL p.num.natAbs)))),.d (.v (.string (tx (lowL p))))]:=by
 have l1:=limbs_len_bd h.1;have l2:=limbs_len_bd h.2;refine Fn.of Tryz.func150 rfl (by kernel_rfl) Tryz.ntmps150 Tryz.results150 rfl fun w0 S0=>?_;refine wk ?_;refine c1 (partsU h hk) ?_;refine wk ?_;refine AC.join (X:=Unit) (fun _=>⟨[(1,.p 1 0),(6,.d (enL (limbs p.num.natAbs))),(7,.d (enL (limbs p.den))),(8,.d (.v (.string (tx (sgnL p))))),(9,.d (.v (.string (tx []))))],[(1,.box 104 ((enR p).map .d))]⟩) (fun _=>True) ?_ ?_
 ·cases hs:decide (p.num<0)with
  | true=>
    have e:sgnL p=[45]:=if_pos (of_decide_eq_true hs);rw[e];refine wk ?_;exact⟨(),trivial,⟨rfl,rfl,rfl,rfl,rfl,trivial⟩,⟨rfl,trivial⟩⟩
  | false=>
    have e:sgnL p=[]:=if_neg (of_decide_eq_false hs);rw[e];refine wk ?_;exact⟨(),trivial,⟨rfl,rfl,rfl,rfl,rfl,trivial⟩,⟨rfl,trivial⟩⟩
 ·intro _ _;refine wk ?_;refine c1 (wholeU p) ?_;refine wk ?_;cases hd:decide (p.den=1)with
  | true=>
    have e:lowL p=[]:=if_pos (of_decide_eq_true hd);refine wk ?_;refine c1 (textF p.num.natAbs (by omega)) ?_;refine wk ?_;rw[e];exact⟨.d rfl (.inl rfl),.d rfl (.inl rfl),.d rfl (.inl rfl),trivial⟩
  | false=>
    have e:lowL p=textL p.den:=if_neg (of_decide_eq_false hd);refine wk ?_;refine c1 (textF p.den (by omega)) ?_;refine wk ?_;refine c1 (textF p.num.natAbs (by omega)) ?_;refine wk ?_;rw[e];exact⟨.d rfl (.inl rfl),.d rfl (.inl rfl),.d rfl (.inl rfl),trivial⟩
theorem printF{k:Nat}{p:Rat}(h:Bd k p)(hk:k≤100000000):Fn Tryz.prog 84 [.g (enR p)] [.d (.v (.string (tx (printL p))))]:=by
 have l1:=limbs_len_bd h.1;have l2:=limbs_len_bd h.2;have t1:=textL_len p.num.natAbs;have t2:=textL_len p.den;have t0:(sgnL p).length≤1:=by unfold sgnL;split<;>simp
 refine Fn.of Tryz.func84 rfl (by kernel_rfl) Tryz.ntmps84 Tryz.results84 rfl fun w0 S0=>?_;refine wk ?_;refine c1 (partsF h hk) ?_;refine wk ?_;by_cases hd:p.den=1
 ·have e:lowL p=[]:=if_pos hd;have e2:printL p=sgnL p++textL p.num.natAbs:=by unfold printL;rw[if_pos hd,List.append_nil];rfl
  rw[e];((try (first | intro K ms hms hK | intro K hK));(first | apply Chain.go | apply Chain.goD);exact rfl;exact rfl;exact Loc.strEq (r:=true) rfl rfl rfl (by rw[tx_list,tx_nil];rfl));refine wk ?_;((try (first | intro K ms hms hK | intro K hK));(first | apply Chain.go | apply Chain.goD);exact rfl;exact rfl;exact Loc.strAdd rfl rfl rfl (by rw[tx_size,tx_size];omega));refine wk ?_;rw[tx_app,←e2];exact⟨.d rfl (.inl rfl),trivial⟩
 ·have e:lowL p=textL p.den:=if_neg hd;have e2:printL p=((sgnL p++textL p.num.natAbs)++[47])++textL p.den:=by unfold printL;rw[if_neg hd,List.append_assoc,List.append_assoc];rfl
  rw[e];((try (first | intro K ms hms hK | intro K hK));(first | apply Chain.go | apply Chain.goD);exact rfl;exact rfl;exact Loc.strEq (r:=false) rfl rfl rfl (by rw[tx_list,tx_nil];simp[textL_ne]));refine wk ?_;((try (first | intro K ms hms hK | intro K hK));(first | apply Chain.go | apply Chain.goD);exact rfl;exact rfl;exact Loc.strAdd rfl rfl rfl (by rw[tx_size,tx_size];omega));rw[tx_app];((try (first | intro K ms hms hK | intro K hK));(first | apply Chain.go | apply Chain.goD);exact rfl;exact rfl;exact Loc.strAdd (t:=tx [47]) rfl rfl rfl (by rw[tx_size,tx_size,List.length_append];simp;omega));rw[tx_app];refine wk ?_;((try (first | intro K ms hms hK | intro K hK));(first | apply Chain.go | apply Chain.goD);exact rfl;exact rfl;exact Loc.strAdd rfl rfl rfl (by rw[tx_size,tx_size,List.length_append,List.length_append];simp;omega));refine wk ?_;rw[tx_app,←e2];exact⟨.d rfl (.inl rfl),trivial⟩
end Go.Proofs.YtbbpecfapohlaaaGreatDoor
