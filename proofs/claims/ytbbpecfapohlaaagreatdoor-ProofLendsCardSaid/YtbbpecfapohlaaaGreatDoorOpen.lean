import Derived.Lib.ItoaLen
import Derived.Shelf.Strings.Trim
import Derived.Shelf.Strings.SlTrimAscii
import Derived.Shelf.Strconv.Atoi
import Derived.Shelf.Strings.Cut
import Derived.Shelf.Strings.Prefix
import Derived.Shelf.Strings.Split
import Derived.Shelf.Strings.FieldsFuncAny
import Derived.Shelf.Strings.FieldsFuncGrows
import Derived.Lib.AtoiErrMem
import Derived.HandedShaped
import Derived.Shelf.Vars
import Derived.Test.YtbbpecfapohlaaaGreatDoorP1
import Derived.Test.YtbbpecfapohlaaaGreatDoorDigA
import Derived.Test.YtbbpecfapohlaaaGreatDoorOw
import Derived.Test.YtbbpecfapohlaaaGreatDoorProg
import Derived.Test.YtbbpecfapohlaaaGreatDoorRows
import Derived.Test.YtbbpecfapohlaaaGreatDoorK1
set_option maxRecDepth 100000
set_option maxHeartbeats 2000000
namespace Go.Proofs.YtbbpecfapohlaaaGreatDoor
open Go.RowKit
theorem dig_nat{d:Nat}(h:d<10):(UInt8.ofNat (48+d)).toNat=48+d:=by
 rw[UInt8.toNat_ofNat'];omega
theorem decD_dig(u:Nat):∀ c∈Lib.decDigits u,DigC c:=by
 induction u using Nat.strongRecOn with
 | _ u ih=>
   intro c hc;rw[Lib.decDigits]at hc;split at hc
   ·rename_i h;rw[List.mem_singleton.1 hc];unfold DigC;rw[dig_nat h];omega
   ·rename_i h;rcases List.mem_append.1 hc with hc | hc
    ·exact ih (u / 10) (by omega) c hc
    ·rw[List.mem_singleton.1 hc];unfold DigC;rw[dig_nat (Nat.mod_lt _ (by omega))];have:=Nat.mod_lt u (by omega:10>0);omega
theorem decD_val(u:Nat):valF 0 (Lib.decDigits u)=u:=by
 induction u using Nat.strongRecOn with
 | _ u ih=>
   rw[Lib.decDigits];split
   ·rename_i h;have:(UInt8.ofNat (48+u)).toNat=48+u:=dig_nat h;show 0*10+((UInt8.ofNat (48+u)).toNat-48)=u;omega
   ·rename_i h;have h2:=dig_nat (Nat.mod_lt u (by omega:10>0));rw[valF_app,ih (u / 10) (by omega)];show u / 10*10+((UInt8.ofNat (48+u % 10)).toNat-48)=u;omega
theorem decD_inj{n m:Nat}(h:Lib.decDigits n=Lib.decDigits m):n=m:=by rw[←decD_val n,h,decD_val]
theorem itoa_no{c:UInt8}(n:Int)(h:¬ DigC c)(h45:c≠45):c∉Lib.itoa n:=fun e=>by
 unfold Lib.itoa at e;split at e
 ·rcases List.mem_cons.1 e with e | e
  ·exact h45 e
  ·exact h (decD_dig _ c e)
 ·exact h (decD_dig _ c e)
theorem itoa_inj{n m:Int}(h:Lib.itoa n=Lib.itoa m):n=m:=by
 have hno:∀ (u v:Nat),45::Lib.decDigits u≠Lib.decDigits v:=fun u v e=>no45 (decD_dig v 45 (by rw[←e];simp));unfold Lib.itoa at h;split at h<;>split at h
 ·injection h with _ h;have:=decD_inj h;omega
 ·exact absurd h (hno _ _)
 ·exact absurd h.symm (hno _ _)
 ·have:=decD_inj h;omega
theorem no58:¬DigC 58:=by unfold DigC;decide
def keyT(l:List (Int×Rat)):List UInt8:=l.flatMap fun t=>Lib.itoa t.1++58::(printL t.2++[32])
theorem keyT_cons(t:Int×Rat)(l:List (Int×Rat)):keyT (t::l)=(Lib.itoa t.1++58::printL t.2)++32::keyT l:=by
 simp[keyT]
theorem keyT_inj:∀ {l m:List (Int×Rat)},keyT l=keyT m→l=m
 | [],[],_=>rfl
 | [],t::m,h=>by rw[keyT_cons]at h;simp[keyT]at h
 | t::l,[],h=>by rw[keyT_cons]at h;simp[keyT]at h
 | t::l,u::m,h=>by
   have no:∀ t:Int×Rat,(32:UInt8)∉Lib.itoa t.1++58::printL t.2:=fun t e=>by
    rcases List.mem_append.1 e with e | e
    ·exact itoa_no _ no32 (by decide) e
    ·rcases List.mem_cons.1 e with e | e
     ·exact absurd e (by decide)
     ·exact printL_no _ no32 (by decide) (by decide) e
   rw[keyT_cons,keyT_cons]at h;obtain⟨h1,h2⟩:=split_uniq (no t) (no u) h;obtain⟨h3,h4⟩:=split_uniq (itoa_no t.1 no58 (by decide)) (itoa_no u.1 no58 (by decide)) h1;have h5:t=u:=Prod.ext (itoa_inj h3) (printL_inj h4);rw[h5,keyT_inj h2]
theorem keyT_snoc(l:List (Int×Rat))(t:Int×Rat):keyT (l++[t])=keyT l++(Lib.itoa t.1++58::(printL t.2++[32])):=by
 simp[keyT]
end Go.Proofs.YtbbpecfapohlaaaGreatDoor
namespace Go.Proofs.YtbbpecfapohlaaaGreatDoor
open Go.RowKit
attribute [local irreducible] AC Do St
theorem cutX(x:Nat)(hb:(limbs x).length≤1000000000):Fn Tryz.prog 244 [.d (enL (limbs x))] [.d (enL (limbs x))]:=by
 have:=cutU (limbs x) (limbsDg x) hb;rwa[limbs_val]at this
section
variable {p q:Rat}{k:Nat}
end
def w4(w:Nat):List UInt8:=(four w).map UInt8.ofNat
theorem w4_en(w:Nat):(w4 w).map enBy=[[.v (.int .u8 ((w % 256:Nat):Int))],[.v (.int .u8 ((w / 256 % 256:Nat):Int))],[.v (.int .u8 ((w / 65536 % 256:Nat):Int))],[.v (.int .u8 ((w / 16777216 % 256:Nat):Int))]]:=by
 have h:∀ x,((UInt8.ofNat (x % 256)).toNat:Int)=((x % 256:Nat):Int):=fun x=>by rw[byte_nat (Nat.mod_lt _ (by omega))]
 simp only[w4,four,List.map_cons,List.map_nil,enBy,h]
theorem wrap8(n:Nat):IntKind.u8.wrap (n:Int)=((n % 256:Nat):Int):=by
 simp[IntKind.wrap,IntKind.bits,IntKind.signed]
theorem shr_nat(w s:Nat):((w:Nat):Int).fdiv (2^s)=((w / 2^s:Nat):Int):=by
 rw[Int.fdiv_eq_ediv_of_nonneg _ (Int.le_of_lt (Int.pow_pos (by omega)))];simp
def nB(l:List UInt8):List Nat:=l.map UInt8.toNat
theorem cut_bytes{m:List UInt8}{n:Nat}(hm:nB m=digs 256 n):m=byL n:=by
 unfold byL;rw[←hm,nB,List.map_map]
 conv=>lhs;rw[←List.map_id m]
 refine List.map_congr_left fun c _=>?_;refine UInt8.toNat_inj.1 ?_;simp[Function.comp]
theorem nB_raw(L:List Nat):nB (L.flatMap w4)=L.flatMap four:=by
 induction L with
 | nil=>rfl
 | cons w r ih=>
   rw[List.flatMap_cons,List.flatMap_cons,nB,List.map_append,←nB,←nB,ih]
   congr 1
   have h:∀ x,(UInt8.ofNat (x % 256)).toNat=x % 256:=fun x=>byte_nat (Nat.mod_lt _ (by omega));simp only[nB,w4,four,List.map_cons,List.map_nil,h]
theorem w4_len(l:List Nat):(l.flatMap w4).length=4*l.length:=by
 induction l with
 | nil=>rfl
 | cons w r ih=>rw[List.flatMap_cons,List.length_append,ih,List.length_cons];simp[w4,four];omega
theorem packU(n:Nat)(hl:(limbs n).length≤20000000):Fn Tryz.prog 259 [.d (enL (limbs n))] [.d (.l ((byL n).map enBy))]:=by
 have hraw:=raw_cut n;have hdg:=limbs_dg n;refine Fn.of Tryz.func259 rfl (by kernel_rfl) Tryz.ntmps259 Tryz.results259 rfl fun w0 S0=>?_;refine wk ?_;refine c1 (cutX n (by omega)) ?_;generalize limbs n=L at hl hraw hdg ⊢;refine wk ?_;refine AC.rowVar 3 45 5 1 rfl rfl ?_;refine AC.loop (X:=Nat) (fun i=>⟨[(3,.r 45 i),(7,.d (enL L)),(8,.d (.v (.int .i64 (L.length:Int)))),(9,.d (.v (.int .i64 (i:Int))))],[(45,.row i 5 1 (((L.take i).flatMap w4).map enBy))]⟩) (fun i=>i≤L.length) (fun i=>L.length-i) 0 (Nat.zero_le _) ⟨rfl,rfl,rfl,rfl,trivial⟩ ⟨rfl,trivial⟩ ?_;intro i hi;refine wk ?_;refine s1 (fun h1=>?_) (fun h1=>?_)
 ·have hi':i<L.length:=by omega
  have hget:L[i]?=some L[i]:=List.getElem?_eq_getElem hi';have hs:(L.take (i+1)).flatMap w4=(L.take i).flatMap w4++w4 L[i]:=by
   rw[List.take_succ_eq_append_getElem hi',List.flatMap_append];simp
  have hlt:=hdg L[i] (List.getElem_mem hi');have hle:=w4_len (L.take i);rw[List.length_take,Nat.min_eq_left (by omega)]at hle;generalize L[i]=w at hget hs hlt;refine wk ?_;((try (first | intro K ms hms hK | intro K hK));(first | apply Chain.go | apply Chain.goD);exact rfl;exact rfl;exact Loc.conv rfl rfl (wrap8 w));refine wk ?_;((try (first | intro K ms hms hK | intro K hK));(first | apply Chain.go | apply Chain.goD);exact rfl;exact rfl;exact Loc.shr 8 rfl rfl rfl rfl (shr_nat w 8));((try (first | intro K ms hms hK | intro K hK));(first | apply Chain.go | apply Chain.goD);exact rfl;exact rfl;exact Loc.conv rfl rfl (wrap8 _));refine wk ?_;((try (first | intro K ms hms hK | intro K hK));(first | apply Chain.go | apply Chain.goD);exact rfl;exact rfl;exact Loc.shr 16 rfl rfl rfl rfl (shr_nat w 16));((try (first | intro K ms hms hK | intro K hK));(first | apply Chain.go | apply Chain.goD);exact rfl;exact rfl;exact Loc.conv rfl rfl (wrap8 _));refine wk ?_;((try (first | intro K ms hms hK | intro K hK));(first | apply Chain.go | apply Chain.goD);exact rfl;exact rfl;exact Loc.shr 24 rfl rfl rfl rfl (shr_nat w 24));((try (first | intro K ms hms hK | intro K hK));(first | apply Chain.go | apply Chain.goD);exact rfl;exact rfl;exact Loc.conv rfl rfl (wrap8 _));refine wk ?_
  ((try (first | intro K ms hms hK | intro K hK));(first | apply Chain.ef | apply Chain.efD);exact rfl;exact rfl;exact Do.append rfl rfl rfl rfl rfl (by intro y hy;simp at hy;rcases hy with h | h | h | h<;>subst h<;>rfl) (by rw[List.length_map,hle];show (4*i+4)*1≤_;omega);exact rfl;exact rfl);refine wk ?_;exact⟨i+1,by omega,by omega,⟨rfl,rfl,rfl,rfl,trivial⟩,⟨by dsimp only;rw[hs,List.map_append,w4_en];rfl,trivial⟩⟩
 ·have hiL:i=L.length:=by omega
  subst hiL;rw[List.take_length];have hnb:=nB_raw L;rw[←hnb]at hraw;have hlen2:=w4_len L;generalize L.flatMap w4=B at hraw hlen2 ⊢;have hB:B.length≤100000000:=by omega
  clear hlen2 hnb hdg hi h1 hl;refine wk ?_;refine AC.frzVar 3 rfl rfl ?_;refine AC.loop (X:=Nat) (fun m=>⟨[(3,.d (.l ((B.take m).map enBy)))],[]⟩) (fun m=>m≤B.length∧cutz (nB (B.take m))=digs 256 n) (fun m=>m) B.length ⟨Nat.le_refl _,by rw[List.take_length];exact hraw⟩ ⟨by rw[List.take_length];rfl,trivial⟩ trivial ?_;intro m ⟨hm,hc⟩;have hml:(B.take m).length=m:=by rw[List.length_take];omega
  refine wk ?_;refine s1 (fun h2=>?_) (fun h2=>?_)
  ·obtain⟨k,rfl⟩:∃ k,m=k+1:=⟨m-1,by omega⟩
   have hk:k<B.length:=by omega
   have hgt:(B.take (k+1))[k]?=some B[k]:=by
    rw[List.getElem?_take_of_lt (by omega),List.getElem?_eq_getElem hk]
   have htk:B.take (k+1)=B.take k++[B[k]]:=List.take_succ_eq_append_getElem hk;have htt:(B.take (k+1)).take k=B.take k:=by
    rw[List.take_take,Nat.min_eq_left (by omega)]
   generalize B[k]=c at hgt htk;refine wk ?_;((try (first | intro K ms hms hK | intro K hK));(first | apply Chain.go | apply Chain.goD);exact rfl;exact rfl;exact Loc.idxM (i:=k) rfl rfl rfl (by omega) hgt rfl);refine wk ?_;refine s1 (fun h3=>?_) (fun h3=>?_)
   ·have h3:c.toNat=0:=by omega
    refine wk ?_;((try (first | intro K ms hms hK | intro K hK));(first | apply Chain.go | apply Chain.goD);exact rfl;exact rfl;exact Loc.partM (f:=enBy) k rfl rfl rfl (by omega) (by omega));refine wk ?_;refine⟨k,⟨by omega,?_⟩,by omega,⟨by rw[htt];rfl,trivial⟩,trivial⟩;rw[←hc,htk,nB,nB,List.map_append];show _=cutz (_++[c.toNat]);rw[h3,cutz_concat0]
   ·have h3:c.toNat≠0:=by omega
    have hres:B.take (k+1)=byL n:=by
     refine cut_bytes ?_;rw[←hc,htk,nB,List.map_append];exact(cutz_concat _ h3).symm
    refine wk ?_;rw[hres];exact⟨.d rfl (.inl rfl),trivial⟩
  ·have hm0:m=0:=by omega
   subst hm0;have hres:B.take 0=byL n:=cut_bytes (by rw[←hc];rfl);refine wk ?_;rw[hres];exact⟨.d rfl (.inl rfl),trivial⟩
end Go.Proofs.YtbbpecfapohlaaaGreatDoor
namespace Go.Proofs.YtbbpecfapohlaaaGreatDoor
open Go.RowKit
attribute [local irreducible] AC Do St
section
variable {P:Program}{C:Cx}{o:Oper}{σ:AS}
end
section
variable {p q:Rat}{k:Nat}
end
def enK(q:Rat):List D:=[.v (.bool (decide (q.num<0))),.v (.string (tx (byL q.num.natAbs))),.v (.string (tx (byL q.den)))]
theorem keyOfR{k:Nat}(q:Rat)(h:Bd k q)(hk:k≤100000000):Fn Tryz.prog 227 [.g (enR q)] [.g (enK q)]:=by
 have h1:(limbs q.num.natAbs).length≤20000000:=by have:=limbs_len_bd h.1;omega
 have h2:(limbs q.den).length≤20000000:=by have:=limbs_len_bd h.2;omega
 refine Fn.of Tryz.func227 rfl (by kernel_rfl) Tryz.ntmps227 Tryz.results227 rfl fun w0 S0=>?_;refine wk ?_;refine c1 (packU _ h1) ?_;((try (first | intro K ms hms hK | intro K hK));(first | apply Chain.go | apply Chain.goD);exact rfl;exact rfl;exact Loc.toStr (e:=5) rfl rfl (by kernel_rfl) (by kernel_rfl) (by kernel_rfl));refine wk ?_;refine c1 (belowR q) ?_;refine c1 (packU _ h2) ?_;((try (first | intro K ms hms hK | intro K hK));(first | apply Chain.go | apply Chain.goD);exact rfl;exact rfl;exact Loc.toStr (e:=5) rfl rfl (by kernel_rfl) (by kernel_rfl) (by kernel_rfl));refine wk ?_;exact⟨.cn rfl rfl inferInstance rfl ⟨.inl rfl,.inl rfl,.inl rfl,trivial⟩,trivial⟩
end Go.Proofs.YtbbpecfapohlaaaGreatDoor
namespace Go.Proofs.YtbbpecfapohlaaaGreatDoor
open Go.RowKit
attribute [local irreducible] AC Do St
end Go.Proofs.YtbbpecfapohlaaaGreatDoor
namespace Go.Proofs.YtbbpecfapohlaaaGreatDoor
open Go.RowKit
attribute [local irreducible] AC Do St
end Go.Proofs.YtbbpecfapohlaaaGreatDoor
namespace Go.Proofs.YtbbpecfapohlaaaGreatDoor
open Go.RowKit
attribute [local irreducible] AC Do St
class KHas (K T:World→Prop):Prop where
 has:∀ w,K w→T w
def MaxL(w:World):Prop:=∃ m,w.cell? ⟨1,0,none⟩=some (.int .i64 m)
theorem cell_keep{w w':World}{b:Nat}{v:Value}(h:w.cell? ⟨b,0,none⟩=some v)(hx:Ext w w'):w'.cell? ⟨b,0,none⟩=some v:=by
 unfold World.cell? at h ⊢;have hb:w.heap[b]?≠none:=fun e=>by
  simp only[e]at h;cases h
 have hlt:b<w.heap.size:=by
  rcases Nat.lt_or_ge b w.heap.size with h | h
  ·exact h
  ·exact absurd (Array.getElem?_eq_none h) hb
 simp only[hx.block b hlt];exact h
instance:KSt MaxL:=⟨fun _ _ ⟨m,h⟩ hx=>⟨m,cell_keep h hx⟩⟩
section
variable {P:Program}{C:Cx}{o:Oper}{σ:AS}
end
end Go.Proofs.YtbbpecfapohlaaaGreatDoor
namespace Go.Proofs.YtbbpecfapohlaaaGreatDoor
open Go.RowKit
theorem handed_both{H:Type}{enc:TypeId×Value→H}{a:Assume}{C:Checked}{os:Os}{f:FuncId}{fn:Func}{s:ChangeSpec}{conds:List PathCond}{apart fresh handsOn again:Bool}{X:World→Array Value→Prop}
  (hX:∀ (w w':World) (args:Array Value),w.heap=w'.heap→X w args→X w' args)
  (own:ownKnob C.prog.godebug=none) (started:os.Started) (noInit:C.prog.inits.idxOf? f=none) (hfn:C.prog.funcs[f]?=some fn)
  (witness:∃ (w:World) (tape:Tape) (i:Input),w.os=os∧(w.forCall tape i).Shaped C.prog∧i.vars=[]∧Input.okWide C.prog (w.forCall tape i) .any w.heap.size f i∧
    ((s.pre enc C.prog fn conds apart (w.forCall tape i).memory i.args∧X (w.forCall tape i).memory i.args)∧sizedMet enc C.prog fn (OpenSpec.ofChange s) apart (w.forCall tape i).memory i.args)∧a.holds C.prog (lone (Frame.enter C.prog f i.args .normal) [] (w.forCall tape i)))
  (contract:∀ (W:World) (base:Nat) (args:Array Value) (ds gs:List (DataW H)) (before:List MemPlace),W.ShapedOpen C.prog→
    (∀(j:Nat) t v,fn.params[j]?=some t→args[j]?=some v→Value.okWide C.prog W .any base t v)→
    DataW.Whole enc C.prog fn.params.toList s.vars apart W args.toList ds gs before→
    conds.all (PathCond.test C.prog ⟨fn.params.toList,ds,s.plain.varTypes C.prog,gs⟩)=true→
    (DataW.weightsEach C.prog (fn.params.toList++s.plain.varTypes C.prog) (ds++gs)).all (· ≤reachBytes)=true→X W args→
    a.holds C.prog (lone (Frame.enter C.prog f args .normal) [] W)→
    Calls C.prog f args W fun e W'=>∃ v,e= .returned v∧s.post enc C.prog fn apart fresh handsOn again W args v W'):
  ReturnsInHanded a C os f .any (fun w args=>(s.pre enc C.prog fn conds apart w args∧X w args)∧sizedMet enc C.prog fn (OpenSpec.ofChange s) apart w args) (s.post enc C.prog fn apart fresh handsOn again):=by
 refine returnsInHanded_of_calls own started noInit witness ?_;intro w tape i _ hsh _ hok hpre hholds;obtain⟨_,_,_,fn',hfn',_,_,_,_,hval⟩:=hok;have e:fn'=fn:=Option.some.inj (hfn'.symm.trans hfn);subst e;obtain⟨⟨⟨ds,gs,before,hw,hc⟩,hx⟩,hz⟩:=hpre;have hw':=DataW.Whole.of_heap (w':=w.forCall tape i) (by rfl) hw;refine(contract (w.forCall tape i) w.heap.size i.args ds gs before hsh hval hw' hc (hz.weights hw) (hX _ _ _ (by rfl) hx) hholds).mono fun e W' ⟨v,he,hp⟩=>?_;subst he;exact ChangeSpec.post_blind hp
theorem maxL_shaped{w:World}(h:w.ShapedOpen Tryz.prog):MaxL w:=
 cell_of_shapedOpen_int (k:= .i64) (zero:= #[.int .i64 0]) h (t:=3) (by decide+kernel) (by kernel_rfl) rfl (by kernel_rfl) (by kernel_rfl) (by kernel_rfl)
def And2(K T:World→Prop)(w:World):Prop:=K w∧T w
instance {K T:World→Prop}:KHas (And2 K T) K:=⟨fun _ h=>h.1⟩
instance {K T:World→Prop} [hK:KSt K] [hT:KSt T]:KSt (And2 K T):=⟨fun w w' h hx=>⟨hK.st w w' h.1 hx,hT.st w w' h.2 hx⟩⟩
end Go.Proofs.YtbbpecfapohlaaaGreatDoor
namespace Go.Proofs.YtbbpecfapohlaaaGreatDoor
open Go.RowKit Go.ChangeShapes Go.WideShapes
section
variable {H:Type}{enc:TypeId×Value→H}{P:Program}{W:World}{α β:Type}
def Opens(enc:TypeId×Value→H)(P:Program)(W:World)(m:Nat)(t:TypeId)(R:Rp α)(sz:α→Nat):Prop:=
 ∀n,n<m→∀ cs d ps,DataW.trod enc P W 0 (fun _=>true) true n t cs=some (d,ps)→∃ a,R.rel (Lt W.heap.size) W cs a∧sz a≤Rows.uptoBulk d
theorem Opens.less{m m':Nat}{t:TypeId}{R:Rp α}{sz:α→Nat}(h:Opens enc P W m t R sz)(hm:m'≤m):Opens enc P W m' t R sz:=fun n hn=>h n (by omega)
theorem Opens.bool{t:TypeId}(ht:P.underlying t=some .bool)(m:Nat):Opens enc P W m t Rp.bool (fun _=>1):=by
 intro n _ cs d ps h;obtain⟨b,rfl,hx⟩:=DataW.trod_bool ht h;simp only[Prod.mk.injEq]at hx;exact⟨b,rfl,by rw[hx.1];simp[Rows.uptoBulk]⟩
theorem Opens.int{t:TypeId}{k:IntKind}(ht:P.underlying t=some (.int k))(m:Nat):Opens enc P W m t (Rp.int k) (fun _=>1):=by
 intro n _ cs d ps h;obtain⟨x,rfl,hx,hw⟩:=DataW.trod_int ht h;simp only[Prod.mk.injEq]at hx;simp only[Lit.wf,Bool.and_eq_true,decide_eq_true_eq]at hw;exact⟨x,⟨rfl,hw.1,hw.2⟩,by rw[hx.1];simp[Rows.uptoBulk]⟩
theorem Opens.map{m:Nat}{t:TypeId}{R:Rp α}{sz:α→Nat}(f:β→α)(g:α→β)(hg:∀ a,f (g a)=a)(h:Opens enc P W m t R sz):Opens enc P W m t (R.map f) (fun b=>sz (f b)):=by
 intro n hn cs d ps hx;obtain⟨a,h1,h2⟩:=h n hn cs d ps hx;exact⟨g a,by show R.rel _ _ _ (f (g a));rw[hg];exact h1,by show sz (f (g a))≤_;rw[hg];exact h2⟩
theorem cells_at{base:Nat}{a:Addr}{n:Nat}{cs:List Value}(h:W.cells? base a n=some cs)(hn:0<n):a.spot=none∧a.block<W.heap.size∧cs.length=n∧∀ j (hj:j<cs.length),W.cell? ⟨a.block,a.off+j,none⟩=some cs[j]:=by
 obtain⟨_,hl,hc⟩:=World.cells?_some h;have h0:=hc 0 hn;have hz:a.add 0=a:=by simp[Addr.add]
 rw[hz,List.getElem?_eq_getElem (by omega)]at h0;have hs:=World.cell?_spot h0;refine⟨hs,lt_of_cell (b:=a.block) (o:=a.off) (s:=a.spot) h0,hl,fun j hj=>?_⟩;have:=hc j (by omega);rw[List.getElem?_eq_getElem hj]at this;rw[show (⟨a.block,a.off+j,none⟩:Addr)=a.add j by
  obtain⟨b,o,s⟩:=a;simp only at hs;subst hs;unfold Addr.add;split<;>simp_all]
 exact this
theorem Opens.slice{m:Nat}{t e:TypeId}{R:Rp α}{sz:α→Nat}(ht:P.underlying t=some (.slice e))(hk:P.cellsOf e=R.k)(hp:0<R.k)(he:Opens enc P W m e R sz):
  Opens enc P W (m+1) t (Rp.slice R) (fun l=>(l.map sz).sum+1):=by
 intro n hn cs d ps h;rcases DataW.trod_slice ht h with ⟨rfl,hx⟩ | ⟨a,len,cap,elems,rest,n',hf,rfl,hx,_,hl,hm,hlen,hel,_,_⟩
 ·simp only[Prod.mk.injEq]at hx;exact⟨[],⟨none,0,rfl,by simp,by simp[maxLen],by simp⟩,by rw[hx.1];simp[Rows.uptoBulk]⟩
 ·simp only[Prod.mk.injEq]at hx;have hall:∀ i,i<len→∃ x:α×List Value,(W.cells? 0 (a.add (i*P.cellsOf e)) (P.cellsOf e)=some x.2∧R.rel (Lt W.heap.size) W x.2 x.1∧∃ hi:i<elems.length,sz x.1≤Rows.uptoBulk elems[i].1):=by
   intro i hi;have h1:=hel i hi;rw[List.getElem?_eq_getElem (by omega)]at h1;obtain⟨cs',hc1,hc2⟩:=Option.bind_eq_some_iff.1 h1;obtain⟨x,hx1,hx2⟩:=he n' (by omega) cs' elems[i].1 elems[i].2 hc2;exact⟨(x,cs'),hc1,hx1,by omega,hx2⟩
  obtain⟨xs,hxl,hxs⟩:=choose_list len hall;refine⟨xs.map (·.1),⟨some a,cap,by simp[hxl],by simp[hxl,hl],hm,fun h0=>?_⟩,?_⟩
  ·have h0':0<len:=by simpa[hxl] using h0
   have hc0:=(hxs 0 (by omega)).1;have hz:=cells_at hc0 (by rw[hk];exact hp);have ha0:a.add (0*P.cellsOf e)=a:=by simp[Addr.add]
   rw[ha0]at hz;refine⟨a.block,a.off,?_,hz.2.1,fun i hi=>?_⟩
   ·obtain⟨b,o,s⟩:=a;simp only at hz;rw[hz.1]
   ·have hi':i<xs.length:=by simpa using hi
    obtain⟨hc,hr,_⟩:=hxs i hi';refine⟨(xs[i]).2,by simpa using hr,fun j hj=>?_⟩;have:=(cells_at hc (by rw[hk];exact hp)).2.2.2 j hj;rw[hk]at this;have e1:(a.add (i*R.k)).block=a.block:=by unfold Addr.add;split<;>rfl
    have e2:(a.add (i*R.k)).off=a.off+i*R.k:=by unfold Addr.add;split<;>simp_all
    rw[e1,e2,Nat.add_assoc]at this;exact this
  ·rw[hx.1];simp only[Rows.uptoBulk];have hsum:∀ (ys:List (α×List Value)) (es:List (DataW H×List MemPlace)),ys.length=es.length→(∀i (h:i<ys.length) (h':i<es.length),sz ys[i].1≤Rows.uptoBulk es[i].1)→((ys.map (·.1)).map sz).sum≤Rows.uptoBulkAll (es.map (·.1)):=by
    intro ys
    induction ys with
    | nil=>intro es _ _;simp
    | cons y ys ih=>
      intro es hl h;cases es with
      | nil=>simp at hl
      | cons z es=>
        have h0:=h 0 (by simp) (by simp);have h1:=ih es (by simpa using hl) (fun i h1 h2=>h (i+1) (by simpa using h1) (by simpa using h2));simp only[List.getElem_cons_zero]at h0;simp only[List.map_cons,List.sum_cons,Rows.uptoBulkAll];omega
   have:=hsum xs elems (by omega) (fun i h1 h2=>(hxs i h1).2.2.2);omega
def fieldsOf(P:Program)(t:TypeId):Option (List (Nat×Nat)):=(P.underlying t).bind fun x=>match x with
 | .struct fs=>some (fs.toList.map fun f=>(f.type,f.offset))
 | _=>none
theorem fields_some{l:List (Nat×Nat)}{t:TypeId}(h:fieldsOf P t=some l):∃ fs:List Field,P.underlying t=some (.struct fs.toArray)∧fs.map (fun f=>(f.type,f.offset))=l:=by
 unfold fieldsOf at h;obtain⟨x,h1,h2⟩:=Option.bind_eq_some_iff.1 h;cases x with
 | struct fs=>simp only[Option.some.injEq]at h2;exact⟨fs.toList,by simpa using h1,h2⟩
 | _=>simp at h2
end
end Go.Proofs.YtbbpecfapohlaaaGreatDoor
