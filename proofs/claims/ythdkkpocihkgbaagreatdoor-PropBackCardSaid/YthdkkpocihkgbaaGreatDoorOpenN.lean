import Derived.Test.YthdkkpocihkgbaaGreatDoorLin
import Derived.Test.YthdkkpocihkgbaaGreatDoorRef8
import Derived.Test.YthdkkpocihkgbaaGreatDoorK3
import Derived.Test.YthdkkpocihkgbaaGreatDoorTb
set_option maxRecDepth 100000
set_option maxHeartbeats 4000000
namespace Go.Proofs.YthdkkpocihkgbaaGreatDoor
open Go.RowKit
attribute [local irreducible] AC Do St
theorem holdsF(a:At)(p:List Rat)(k:Nat)(ho:okOp a.op)(hc:Bd k a.e.c)(ht:∀ t∈a.e.t,Bd k t.2)(hp:∀ q∈p,Bd k q)(hk0:0<k)(hk:(a.e.t.length+2)*(2*k+1)≤50000000):Fn Tryz.prog 80 [.g (enA a),.d (.l (p.map enR))] [.d (.v (.bool (sayB a.op (a.e.c+evalT p a.e.t)))),.d (.v (.int .i64 0))]:=by
 refine Fn.of Tryz.func80 rfl (by kernel_rfl) Tryz.ntmps80 Tryz.results80 rfl fun w0 S0=>?_;refine wk ?_;refine c1 (checkA a ho) ?_;refine wk ?_;refine c1 (evalF a.e p k hc ht hp hk0 hk) ?_;refine c1 (saysR a.op (a.e.c+evalT p a.e.t) ho) ?_;refine wk ?_;exact⟨.d rfl (.inl rfl),.d rfl (.inl rfl),trivial⟩
end Go.Proofs.YthdkkpocihkgbaaGreatDoor
namespace Go.Proofs.YthdkkpocihkgbaaGreatDoor
open Go.RowKit
attribute [local irreducible] AC Do St
end Go.Proofs.YthdkkpocihkgbaaGreatDoor
namespace Go.Proofs.YthdkkpocihkgbaaGreatDoor
open Go.RowKit
attribute [local irreducible] AC Do St
theorem canL_form{l:List Tm}(h:Form l):canL l=l:=canL_eq h fun _=>rfl
theorem sub_self(e:Ex):(subE e e).t.length=0∧(subE e e).c=0:=by
 unfold subE addE scaleE;constructor
 ·have:canL (e.t++canL (e.t.map (mulT (-1))))=[]:=canL_eq ⟨.nil,by simp⟩ fun v=>by
   rw[coef_append,(canL_spec _).2.1];have:=coef_map e.t (-1) v;have h2:coef (e.t.map (mulT (-1))) v= -1*coef e.t v:=this;rw[h2];simp only[coef];grind
  simp only;rw[this];rfl
 ·simp only;grind
end Go.Proofs.YthdkkpocihkgbaaGreatDoor
namespace Go.Proofs.YthdkkpocihkgbaaGreatDoor
open Go.RowKit
attribute [local irreducible] AC Do St
structure AN where
 e:EN
 op:Int
def enAN(a:AN):List D:=enEN a.e++[.v (.int .i64 a.op)]
def atN(a:AN):At:=⟨exN a.e,a.op⟩
theorem ofA(a:AN)(ha:okEN a.e):Fn Tryz.prog 76 [.g (enAN a)] [.g (enA (atN a))]:=by
 refine Fn.of Tryz.func76 rfl (by kernel_rfl) Tryz.ntmps76 Tryz.results76 rfl fun w0 S0=>?_;refine wk ?_;refine c1 (expr a.e ha) ?_;refine wk ?_;exact⟨.cn rfl rfl inferInstance rfl ⟨.inl rfl,.inl rfl,.inl rfl,.inl rfl,.inl rfl,trivial⟩,trivial⟩
theorem toldA(a:At)(k:Nat)(hk:k≤10000000)(hc:Bd k a.e.c)(ht:∀ t∈a.e.t,Bd k t.2)(hlen:a.e.t.length≤1000000):Fn Tryz.prog 138 [.g (enA a)] [.g (enAQ a)]:=by
 refine Fn.of Tryz.func138 rfl (by kernel_rfl) Tryz.ntmps138 Tryz.results138 rfl fun w0 S0=>?_;refine wk ?_;refine c1 (told8 a.e k hk hc ht hlen) ?_;refine wk ?_;exact⟨.cn rfl rfl inferInstance rfl ⟨.inl rfl,.inl rfl,.inl rfl,.inl rfl,.inl rfl,trivial⟩,trivial⟩
theorem atN_sm(a:AN)(ha:okEN a.e):Sm 12 256 (atN a).e:=by
 refine⟨bdN _ ha.c,fun t ht=>?_,?_⟩
 ·obtain⟨x,hx,rfl⟩:=List.mem_map.1 ht;exact bdN _ (ha.t x (List.mem_of_mem_take hx)).1
 ·show ((a.e.t.take 12).map tmN).length≤12;simp;omega
end Go.Proofs.YthdkkpocihkgbaaGreatDoor
namespace Go.Proofs.YthdkkpocihkgbaaGreatDoor
open Go.RowKit
attribute [local irreducible] AC Do St
theorem Sm.mono{N k N' k':Nat}{e:Ex}(h:Sm N k e)(hN:N≤N')(hk:k≤k'):Sm N' k' e:=⟨h.c.mono hk,fun t ht=>(h.t t ht).mono hk,Nat.le_trans h.n hN⟩
end Go.Proofs.YthdkkpocihkgbaaGreatDoor
namespace Go.Proofs.YthdkkpocihkgbaaGreatDoor
open Go.RowKit
section
variable {H:Type}{enc:TypeId×Value→H}{W:World}
theorem qU32{ds:List D}(h:QInt .u32 ds):QOf (fun c:Nat=>[.v (encU c)]) (fun c=>c<4294967296) ds:=by
 obtain⟨n,rfl,h1,h2⟩:=h;simp[IntKind.min,IntKind.max,IntKind.signed,IntKind.bits]at h1 h2;exact⟨n.toNat,by unfold encU;simp only;rw[Int.toNat_of_nonneg h1],by omega⟩
theorem qN{ds:List D}(h:QAll [QBool,QList (QInt .u32),QList (QInt .u32)] ds):QOf enN okN ds:=by
 obtain⟨a,b,c,rfl,⟨n,rfl⟩,hb,hc⟩:=h.three;obtain⟨l,rfl,hl,_⟩:=QList.of (fun _=>qU32) hb;obtain⟨m,rfl,hm,_⟩:=QList.of (fun _=>qU32) hc;exact⟨(n,l,m),rfl,hl,hm⟩
theorem odU(m:Nat):OD enc Tryz.prog W m 229 (QInt .u32):=OD.int (by kernel_rfl) m
theorem odI(m:Nat):OD enc Tryz.prog W m 3 (QInt .i64):=OD.int (by kernel_rfl) m
theorem odUs(m:Nat):OD enc Tryz.prog W m 117 (QList (QInt .u32)):=by
 cases m with
 | zero=>intro n hn;omega
 | succ m=>exact OD.slice (by kernel_rfl) (k:=0) (by kernel_rfl) (odU m)
theorem odN(m:Nat):OD enc Tryz.prog W m 128 (QOf enN okN):=by
 cases m with
 | zero=>intro n hn;omega
 | succ m=>exact(OD.fields (l:=[(4,0),(117,1),(117,2)]) (Qs:=[QBool,QList (QInt .u32),QList (QInt .u32)]) (by kernel_rfl) (by kernel_rfl) ⟨OD.bool (by kernel_rfl) m,odUs m,odUs m,trivial⟩).imp fun _=>qN
theorem odT(m:Nat):OD enc Tryz.prog W m 317 (QOf enTN fun x=>okN x.2∧ -9223372036854775808≤x.1∧x.1≤9223372036854775807):=by
 cases m with
 | zero=>intro n hn;omega
 | succ m=>
   refine(OD.fields (l:=[(3,0),(128,1)]) (Qs:=[QInt .i64,QOf enN okN]) (by kernel_rfl) (by kernel_rfl) ⟨odI m,odN m,trivial⟩).imp fun ds h=>?_;obtain⟨a,b,rfl,⟨v,rfl,h1,h2⟩,n,rfl,hn⟩:=h.two;exact⟨(v,n),rfl,hn,h1,h2⟩
theorem odE(m:Nat):OD enc Tryz.prog W m 167 (QOf enEN okEN):=by
 rcases m with _ | _ | m
 ·intro n hn;omega
 ·intro n hn cs d ps h;obtain rfl:n=0:=by omega
  simp[DataW.trod]at h
 ·refine(OD.fields (l:=[(165,0),(128,1)]) (Qs:=[QList (QOf enTN fun x=>okN x.2∧ -9223372036854775808≤x.1∧x.1≤9223372036854775807),QOf enN okN]) (by kernel_rfl) (by kernel_rfl) ⟨OD.slice (by kernel_rfl) (k:=3) (by kernel_rfl) (odT m),odN (m+1),trivial⟩).imp fun ds h=>?_;obtain⟨a,b,rfl,ha,n,rfl,hn⟩:=h.two;obtain⟨l,rfl,hl,hm⟩:=QList.of (fun _ h=>h) ha;exact⟨⟨l,n⟩,rfl,hl,hn,hm⟩
theorem odA(m:Nat):OD enc Tryz.prog W m 169 (QOf enAN fun a=>okEN a.e∧ -9223372036854775808≤a.op∧a.op≤9223372036854775807):=by
 cases m with
 | zero=>intro n hn;omega
 | succ m=>
   refine(OD.fields (l:=[(167,0),(3,4)]) (Qs:=[QOf enEN okEN,QInt .i64]) (by kernel_rfl) (by kernel_rfl) ⟨odE m,odI m,trivial⟩).imp fun ds h=>?_;obtain⟨a,b,rfl,⟨e,rfl,he⟩,v,rfl,h1,h2⟩:=h.two;exact⟨⟨e,v⟩,rfl,he,h1,h2⟩
theorem odNs(m:Nat):OD enc Tryz.prog W m 47 (QList (QOf enN okN)):=by
 cases m with
 | zero=>intro n hn;omega
 | succ m=>exact OD.slice (by kernel_rfl) (k:=2) (by kernel_rfl) (odN m)
end
end Go.Proofs.YthdkkpocihkgbaaGreatDoor
