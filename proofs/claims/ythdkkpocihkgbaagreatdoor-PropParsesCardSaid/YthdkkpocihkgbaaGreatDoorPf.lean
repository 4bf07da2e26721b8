import Derived.Shelf.Strings.Trim
import Derived.Shelf.Strings.SlTrimAscii
import Derived.Shelf.Strconv.Atoi
import Derived.Shelf.Strings.Cut
import Derived.Shelf.Strings.Prefix
import Derived.Shelf.Strings.Split
import Derived.Shelf.Strings.FieldsFuncAny
import Derived.Shelf.Strings.FieldsFuncGrows
import Derived.Lib.AtoiErrMem
import Derived.HandedShaped
import Derived.Shelf.Vars
import Derived.JoinedOf
import Derived.Test.YthdkkpocihkgbaaGreatDoorNtA
import Derived.Test.YthdkkpocihkgbaaGreatDoorChecked
import Derived.Test.YthdkkpocihkgbaaGreatDoorLaw
set_option maxRecDepth 100000
set_option maxHeartbeats 4000000
namespace Go.Proofs
open Go.Shelf
def Tryz.lays145_ren:Go.Shelf.Ren:=⟨fun | 145=>184 | 220=>229 | 219=>218 | 217=>245 | 225=>246 | 224=>247 | 267=>248 | 266=>270 | 314=>271 | n=>n,fun | 9=>9 | 4=>4 | 59=>311 | 3=>3 | 5=>5 | 46=>287 | 146=>387 | 51=>229 | n=>n,fun | 1=>0 | n=>n⟩
theorem Tryz.lays145:Go.Proofs.Lays.n145 Tryz.prog Tryz.lays145_ren:={
 mixed:=by kernel_rfl
 f145:=Tryz.func184.trans (congrArg some (by kernel_rfl))
 f217:=Tryz.func245.trans (congrArg some (by kernel_rfl))
 f219:=Tryz.func218.trans (congrArg some (by kernel_rfl))
 f220:=Tryz.func229.trans (congrArg some (by kernel_rfl))
 f224:=Tryz.func247.trans (congrArg some (by kernel_rfl))
 f225:=Tryz.func246.trans (congrArg some (by kernel_rfl))
 f266:=Tryz.func270.trans (congrArg some (by kernel_rfl))
 f267:=Tryz.func248.trans (congrArg some (by kernel_rfl))
 f314:=Tryz.func271.trans (congrArg some (by kernel_rfl))
 t3:=Tryz.underlying3
 a3:=Tryz.isAgg3
 z3:=Tryz.sizeOf3
 v3:=Tryz.zeroValue3
 t4:=Tryz.underlying4
 a4:=Tryz.isAgg4
 z4:=Tryz.sizeOf4
 v4:=Tryz.zeroValue4
 t5:=Tryz.underlying5
 a5:=Tryz.isAgg5
 z5:=Tryz.sizeOf5
 v5:=Tryz.zeroValue5
 t9:=Tryz.underlying9
 a9:=Tryz.isAgg9
 z9:=Tryz.sizeOf9
 v9:=Tryz.zeroValue9
 t46:=Tryz.underlying287
 a46:=Tryz.isAgg287
 z46:=Tryz.sizeOf287
 v46:=Tryz.zeroValue287
 t51:=Tryz.underlying229
 a51:=Tryz.isAgg229
 z51:=Tryz.sizeOf229
 v51:=Tryz.zeroValue229
 t59:=Tryz.underlying311
 a59:=Tryz.isAgg311
 z59:=Tryz.sizeOf311
 v59:=Tryz.zeroValue311
 t146:=Tryz.underlying387
 a146:=Tryz.isAgg387
 z146:=Tryz.sizeOf387
 v146:=Tryz.zeroValue387
 g1:=by kernel_rfl }
open Go.RowKit Go.Lib in
theorem Tryz.strings_Cut(s sep:ByteArray)(m:Int)(w:World)(hs:s.size<4294967281)(hm:w.cell? ⟨0,0,none⟩=some (.int .i64 m)):
  Calls Tryz.prog 184 #[.string s,.string sep] w fun e w'=>e= .returned (.tuple #[.string ⟨(Lib.cut s.data.toList sep.data.toList).1.toArray⟩,.string ⟨(Lib.cut s.data.toList sep.data.toList).2.1.toArray⟩,.bool (Lib.cut s.data.toList sep.data.toList).2.2])∧∃ n,w'=w.drewN n:=Any.strings_Cut Tryz.lays145 s sep m w hs hm
def Tryz.lays101_ren:Go.Shelf.Ren:=⟨fun | 101=>183 | 208=>228 | 206=>257 | n=>n,fun | 9=>9 | 4=>4 | 3=>3 | n=>n,fun | n=>n⟩
theorem Tryz.lays101:Go.Proofs.Lays.n101 Tryz.prog Tryz.lays101_ren:={
 mixed:=by kernel_rfl
 f101:=Tryz.func183.trans (congrArg some (by kernel_rfl))
 f206:=Tryz.func257.trans (congrArg some (by kernel_rfl))
 f208:=Tryz.func228.trans (congrArg some (by kernel_rfl))
 t3:=Tryz.underlying3
 a3:=Tryz.isAgg3
 z3:=Tryz.sizeOf3
 v3:=Tryz.zeroValue3
 t4:=Tryz.underlying4
 a4:=Tryz.isAgg4
 z4:=Tryz.sizeOf4
 v4:=Tryz.zeroValue4
 t9:=Tryz.underlying9
 a9:=Tryz.isAgg9
 z9:=Tryz.sizeOf9
 v9:=Tryz.zeroValue9 }
open Go.RowKit Go.Lib in
theorem Tryz.strings_TrimPrefix(s p:ByteArray)(w:World):
  Calls Tryz.prog 183 #[.string s,.string p] w fun e w'=>e= .returned (.string ⟨(Lib.trimPrefix s.data.toList p.data.toList).toArray⟩)∧w'=w:=Any.strings_TrimPrefix Tryz.lays101 s p w
end Go.Proofs
namespace Go.Proofs.YthdkkpocihkgbaaGreatDoor
open Go.RowKit
attribute [local irreducible] AC Do St
class KHas (K T:World→Prop):Prop where
 has:∀ w,K w→T w
def ig(w:World):Prop:=∃ m,w.cell? ⟨0,0,none⟩=some (.int .i64 m)
theorem Db(l p:List UInt8):Fn Tryz.prog 183 [.d (.v (.string (tx l))),.d (.v (.string (tx p)))] [.d (.v (.string (tx (Lib.trimPrefix l p))))]:=
 ⟨⟨_,Tryz.func183,by kernel_rfl,by kernel_rfl⟩,fun S w vs hS hv=>by
   obtain⟨u,v,rfl,ha,hb⟩:=hv.two;have ha:RD S w u (.v (.string (tx l))):=ha;have hb:RD S w v (.v (.string (tx p))):=hb;cases ha;cases hb;refine(Tryz.strings_TrimPrefix (tx l) (tx p) w).mono ?_;rintro e w' ⟨rfl,rfl⟩;exact⟨_,rfl,Below.refl _ _,(RD.v rfl:RD _ _ _ _)⟩⟩
theorem Cq{Kw:World→Prop}[h:KHas Kw ig](l s:List UInt8)(hl:l.length≤4000000000):FnK Tryz.prog 184 Kw [.d (.v (.string (tx l))),.d (.v (.string (tx s)))] [.d (.v (.string (tx (Lib.cut l s).1))),.d (.v (.string (tx (Lib.cut l s).2.1))),.d (.v (.bool (Lib.cut l s).2.2))]:=
 ⟨⟨_,Tryz.func184,by kernel_rfl,by kernel_rfl⟩,fun S w vs hK hS hv=>by
   obtain⟨u,v,rfl,ha,hb⟩:=hv.two;have ha:RD S w u (.v (.string (tx l))):=ha;have hb:RD S w v (.v (.string (tx s))):=hb;cases ha;cases hb;obtain⟨m,hm⟩:=h.has w hK;refine(Tryz.strings_Cut (tx l) (tx s) m w (by rw[aB];omega) hm).mono ?_;rintro e w' ⟨rfl,k,rfl⟩;refine⟨_,rfl,Below.drN (Below.refl _ _) k,⟨_,rfl,rfl,fun i h h'=>?_⟩⟩
   match i,h with
   | 0,_=>exact .v rfl
   | 1,_=>exact .v rfl
   | 2,_=>exact .v rfl⟩
theorem vD(l s:List UInt8):(Lib.cut l s).1.length+(Lib.cut l s).2.1.length≤l.length:=by
 unfold Lib.cut;split<;>simp;omega
theorem rI(l s:List UInt8):(Lib.trimPrefix l s).length≤l.length:=by
 unfold Lib.trimPrefix;split<;>simp
section
variable {P:Program}{C:Cx}{o:Oper}{σ:AS}
end
theorem Dd:Fn Tryz.prog 208 [.d (aJ (ae 0))] [.d (.v (.int .i64 0))]:=by
 refine Fn.of Tryz.func208 rfl (by kernel_rfl) Tryz.ntmps208 Tryz.results208 rfl fun w0 S0=>?_;refine wk ?_;refine c1 (FB 0 (by rw[bl];decide)) ?_;rw[bl,show aJ []= .l []from rfl];have h0:([]:List (List D)).length=0:=rfl;refine wk ?_;exact⟨.d rfl (.inl rfl),trivial⟩
theorem DM(neg:Bool)(n:Nat):Fn Tryz.prog 166 [.d (.v (.bool neg)),.d (aJ (ae n)),.d (aJ (ae 0))] [.g (aN 0),.d (.v (.bool false))]:=by
 refine Fn.of Tryz.func166 rfl (by kernel_rfl) Tryz.ntmps166 Tryz.results166 rfl fun w0 S0=>?_;refine wk ?_;refine c1 Dd ?_;refine wk ?_;exact⟨.cn rfl rfl inferInstance rfl ⟨.inl rfl,.inr (by rw[show (0:Rat).num.natAbs=0 from rfl,bl];rfl),.inr rfl,trivial⟩,.d rfl (.inl rfl),trivial⟩
def Ce:Option Rat→List DV
 | some q=>[.g (aN q),.d (.v (.int .i64 0))]
 | none=>[.g (aN 0),.d (.v (.int .i64 3))]
def j8(neg:Bool)(m:List UInt8)(d:Nat):Option Rat:=match aW m with
 | none=>none
 | some n=>if d=0 then none else some (mkRat (bH neg n) d)
def cE(neg:Bool)(m:List UInt8):Option Rat:=
 if (Lib.cut m [47]).2.2=true then
  match aW (Lib.cut m [47]).2.1 with
  | none=>none
  | some d=>j8 neg (Lib.cut m [47]).1 d
 else if (Lib.cut m [46]).2.2=true then
  if (Lib.cut m [46]).1=[]∨(Lib.cut m [46]).2.1=[]then none
  else j8 neg ((Lib.cut m [46]).1++(Lib.cut m [46]).2.1) (10^(Lib.cut m [46]).2.1.length)
 else j8 neg m 1
def aX(l:List UInt8):Option Rat:=cE (decide ((Lib.trimPrefix l [45]).length<l.length)) (Lib.trimPrefix l [45])
theorem BO{Kw:World→Prop}[KSt Kw][KHas Kw ig](l:List UInt8)(hl:l.length≤20000):FnK Tryz.prog 128 Kw [.d (.v (.string (tx l)))] (Ce (aX l)):=by
 have h1:=rI l [45];have h2:=vD (Lib.trimPrefix l [45]) [47];have h3:=vD (Lib.trimPrefix l [45]) [46];have ht:=Db l [45];unfold aX;generalize Lib.trimPrefix l [45]=m at*;obtain⟨neg,hneg⟩:∃ neg,decide (m.length<l.length)=neg:=⟨_,rfl⟩
 rw[hneg];refine FnK.of Tryz.func128 rfl (by kernel_rfl) Tryz.ntmps128 Tryz.results128 rfl fun w0 S0 hK0=>?_;refine wk ?_;((try (first | intro K ms hms hK | intro K hK));(first | apply Ch.go | apply Ch.ah);exact rfl;exact rfl;exact Loc.bF rfl rfl (by kernel_rfl));rw[aB];refine wk ?_;refine c1 ht ?_;refine wk ?_;((try (first | intro K ms hms hK | intro K hK));(first | apply Ch.go | apply Ch.ah);exact rfl;exact rfl;exact Loc.bF rfl rfl (by kernel_rfl));rw[aB];refine wk ?_;((try (first | intro K ms hms hK | intro K hK));(first | apply Ch.go | apply Ch.ah);exact rfl;exact rfl;exact Loc.bF rfl rfl (by kernel_rfl));rw[aB];refine wk ?_;((try (first | intro K ms hms hK | intro K hK));(first | apply Ch.go | apply Ch.ah);exact rfl;exact rfl;exact Loc.FE neg rfl rfl rfl (by rw[←hneg];simp));refine wk ?_;refine c1 (Cq m [47] (by omega)) ?_;refine wk ?_;refine AC.join (X:=List UInt8×Nat) (fun x=>⟨[(2,.p 2 0),(3,.d (.v (.int .i64 0))),(4,.d (.v (.string (tx x.1)))),(5,.d (.v (.bool neg))),(6,.d (aJ (ae x.2)))],[(2,AO.box 119 (gl [.bool false,.slice none 0 0,.slice none 0 0]))]⟩)
  (fun x=>x.1.length≤20000∧(ae x.2).length≤3000∧cE neg m=j8 neg x.1 x.2) ?_ fun⟨q,d⟩ ⟨hq,hd,hr⟩=>?_
 ·unfold cE;cases hc:(Lib.cut m [47]).2.2 with
  | true=>
    rw[if_pos rfl];generalize (Lib.cut m [47]).1=a at*;generalize (Lib.cut m [47]).2.1=b at*;have hp:=x7 b (by omega);have hv:=fun h=>mO b h (by omega);refine wk ?_;cases hb:aW b with
    | none=>
      rw[hb]at hp;refine c1 hp ?_;refine wk ?_;exact⟨.cn rfl rfl inferInstance rfl ⟨.inl rfl,.inr (by rw[show (0:Rat).num.natAbs=0 from rfl,bl];rfl),.inr rfl,trivial⟩,.d rfl (.inl rfl),trivial⟩
    | some d=>
      rw[hb]at hp;have hd:(ae d).length≤3000:=by
       unfold aW at hb;split at hb
       ·rename_i h;cases hb;exact hv h.2
       ·cases hb
      refine c1 hp ?_;refine wk ?_;exact⟨(a,d),⟨by dsimp only;omega,hd,rfl⟩,⟨rfl,rfl,rfl,rfl,rfl,trivial⟩,⟨rfl,trivial⟩⟩
  | false=>
    rw[if_neg (by decide)];refine wk ?_;refine c1 (Cq m [46] (by omega)) ?_;refine wk ?_;cases he:(Lib.cut m [46]).2.2 with
    | true=>
      rw[if_pos rfl];generalize (Lib.cut m [46]).1=a at*;generalize (Lib.cut m [46]).2.1=b at*;refine wk ?_;by_cases ha:a=[]
      ·subst ha;((try (first | intro K ms hms hK | intro K hK));(first | apply Ch.go | apply Ch.ah);exact rfl;exact rfl;exact Loc.fz (r:=true) rfl rfl rfl CM);refine wk ?_;rw[if_pos (.inl rfl)];exact⟨.cn rfl rfl inferInstance rfl ⟨.inl rfl,.inr (by rw[show (0:Rat).num.natAbs=0 from rfl,bl];rfl),.inr rfl,trivial⟩,.d rfl (.inl rfl),trivial⟩
      ((try (first | intro K ms hms hK | intro K hK));(first | apply Ch.go | apply Ch.ah);exact rfl;exact rfl;exact Loc.fz (r:=false) rfl rfl rfl (CY ha));refine wk ?_;by_cases hb:b=[]
      ·subst hb;((try (first | intro K ms hms hK | intro K hK));(first | apply Ch.go | apply Ch.ah);exact rfl;exact rfl;exact Loc.fz (r:=true) rfl rfl rfl CM);refine wk ?_;rw[if_pos (.inr rfl)];exact⟨.cn rfl rfl inferInstance rfl ⟨.inl rfl,.inr (by rw[show (0:Rat).num.natAbs=0 from rfl,bl];rfl),.inr rfl,trivial⟩,.d rfl (.inl rfl),trivial⟩
      ((try (first | intro K ms hms hK | intro K hK));(first | apply Ch.go | apply Ch.ah);exact rfl;exact rfl;exact Loc.fz (r:=false) rfl rfl rfl (CY hb));refine wk ?_;((try (first | intro K ms hms hK | intro K hK));(first | apply Ch.go | apply Ch.ah);exact rfl;exact rfl;exact Loc.lb rfl rfl rfl (by rw[aB,aB];omega));rw[kL];refine wk ?_;((try (first | intro K ms hms hK | intro K hK));(first | apply Ch.go | apply Ch.ah);exact rfl;exact rfl;exact Loc.bF rfl rfl (by kernel_rfl));rw[aB];refine c1 (D5 b.length (by omega)) ?_;refine wk ?_;have hl3:(ae (10^b.length)).length≤3000:=by
       have h2:10^b.length≤2^(4*b.length):=by
        rw[Nat.pow_mul];exact Nat.pow_le_pow_left (by decide) _
       have:=eu (n:=10^b.length) (k:=4*b.length+1) (by rw[Nat.pow_succ];have:=Nat.pow_pos (n:=4*b.length) (show 0<2 by decide);omega);omega
      exact⟨(a++b,10^b.length),⟨by simp;omega,hl3,if_neg (by simp[ha,hb])⟩,⟨rfl,rfl,rfl,rfl,rfl,trivial⟩,⟨rfl,trivial⟩⟩
    | false=>
      rw[if_neg (by decide)];refine wk ?_;exact⟨(m,1),⟨by dsimp only;omega,by rw[lu];decide,rfl⟩,⟨rfl,rfl,rfl,rfl,by dsimp only;rw[lu];rfl,trivial⟩,⟨rfl,trivial⟩⟩
 ·rw[hr];dsimp only at hq hd ⊢;have hp:=x7 q hq;have hv:=fun h=>mO q h hq;unfold j8;refine wk ?_;cases hb:aW q with
  | none=>
    rw[hb]at hp;refine c1 hp ?_;refine wk ?_;exact⟨.cn rfl rfl inferInstance rfl ⟨.inl rfl,.inr (by rw[show (0:Rat).num.natAbs=0 from rfl,bl];rfl),.inr rfl,trivial⟩,.d rfl (.inl rfl),trivial⟩
  | some n=>
    rw[hb]at hp;have hn:(ae n).length≤3000:=by
     unfold aW at hb;split at hb
     ·rename_i h;cases hb;exact hv h.2
     ·cases hb
    refine c1 hp ?_;refine wk ?_;by_cases h0:d=0
    ·subst h0;refine c1 (DM neg n) ?_;refine wk ?_;exact⟨.cn rfl rfl inferInstance rfl ⟨.inl rfl,.inr (by rw[show (0:Rat).num.natAbs=0 from rfl,bl];rfl),.inr rfl,trivial⟩,.d rfl (.inl rfl),trivial⟩
    ·have hmk:=qT neg (ae n) (ae d) (by omega) (by omega) (by rw[ax];omega) (cv n) (cv d);rw[ax,ax]at hmk;refine c1 hmk ?_;refine wk ?_;show Ret _ _ (Ce (if d=0 then none else some (mkRat (bH neg n) d))) _ _;rw[if_neg h0];exact⟨.cn rfl rfl inferInstance rfl ⟨.inl rfl,.inl rfl,.inl rfl,trivial⟩,.d rfl (.inl rfl),trivial⟩
end Go.Proofs.YthdkkpocihkgbaaGreatDoor
namespace Go.Proofs.YthdkkpocihkgbaaGreatDoor
open Go.RowKit
theorem vq{H:Type}{enc:TypeId×Value→H}{a:Assume}{C:Checked}{os:Os}{f:FuncId}{fn:Func}{s:ChangeSpec}{conds:List PathCond}{apart fresh handsOn again:Bool}{X:World→Array Value→Prop}
  (hX:∀ (w w':World) (args:Array Value),w.heap=w'.heap→X w args→X w' args)
  (own:ownKnob C.prog.godebug=none) (started:os.Started) (noInit:C.prog.inits.idxOf? f=none) (hfn:C.prog.funcs[f]?=some fn)
  (witness:∃ (w:World) (tape:Tape) (i:Input),w.os=os∧(w.forCall tape i).Shaped C.prog∧i.vars=[]∧Input.okWide C.prog (w.forCall tape i) .any w.heap.size f i∧
    ((s.pre enc C.prog fn conds apart (w.forCall tape i).memory i.args∧X (w.forCall tape i).memory i.args)∧sizedMet enc C.prog fn (OpenSpec.ofChange s) apart (w.forCall tape i).memory i.args)∧a.holds C.prog (lone (Frame.enter C.prog f i.args .normal) [] (w.forCall tape i)))
  (contract:∀ (W:World) (base:Nat) (args:Array Value) (ds gs:List (DataW H)) (before:List MemPlace),W.ShapedOpen C.prog→
    (∀(j:Nat) t v,fn.params[j]?=some t→args[j]?=some v→Value.okWide C.prog W .any base t v)→
    DataW.Whole enc C.prog fn.params.toList s.vars apart W args.toList ds gs before→
    conds.all (PathCond.test C.prog ⟨fn.params.toList,ds,s.plain.varTypes C.prog,gs⟩)=true→
    (DataW.weightsEach C.prog (fn.params.toList++s.plain.varTypes C.prog) (ds++gs)).all (· ≤reachBytes)=true→X W args→
    a.holds C.prog (lone (Frame.enter C.prog f args .normal) [] W)→
    Calls C.prog f args W fun e W'=>∃ v,e= .returned v∧s.post enc C.prog fn apart fresh handsOn again W args v W'):
  ReturnsInHanded a C os f .any (fun w args=>(s.pre enc C.prog fn conds apart w args∧X w args)∧sizedMet enc C.prog fn (OpenSpec.ofChange s) apart w args) (s.post enc C.prog fn apart fresh handsOn again):=by
 refine returnsInHanded_of_calls own started noInit witness ?_;intro w tape i _ hsh _ hok hpre hholds;obtain⟨_,_,_,fn',hfn',_,_,_,_,hval⟩:=hok;have e:fn'=fn:=Option.some.inj (hfn'.symm.trans hfn);subst e;obtain⟨⟨⟨ds,gs,before,hw,hc⟩,hx⟩,hz⟩:=hpre;have hw':=DataW.Whole.of_heap (w':=w.forCall tape i) (by rfl) hw;refine(contract (w.forCall tape i) w.heap.size i.args ds gs before hsh hval hw' hc (hz.weights hw) (hX _ _ _ (by rfl) hx) hholds).mono fun e W' ⟨v,he,hp⟩=>?_;subst he;exact ChangeSpec.post_blind hp
theorem vh{w:World}(h:w.ShapedOpen Tryz.prog):ig w:=
 cell_of_shapedOpen_int (k:= .i64) (zero:= #[.int .i64 0]) h (t:=3) (by decide+kernel) (by kernel_rfl) rfl (by kernel_rfl) (by kernel_rfl) (by kernel_rfl)
def zy(K T:World→Prop)(w:World):Prop:=K w∧T w
theorem xS{a:Int}(h:(Lit.int .i64 a).wf=true): -9223372036854775808≤a∧a≤9223372036854775807:=by
 simp[Lit.wf,IntKind.min,IntKind.max,IntKind.signed,IntKind.bits]at h;exact h
end Go.Proofs.YthdkkpocihkgbaaGreatDoor
namespace Go.Proofs.YthdkkpocihkgbaaGreatDoor
open Go.RowKit Go.ChangeShapes Go.WideShapes
section
variable {H:Type}{enc:TypeId×Value→H}{P:Program}{W:World}{α β:Type}
def Opens(enc:TypeId×Value→H)(P:Program)(W:World)(m:Nat)(t:TypeId)(R:Rp α)(sz:α→Nat):Prop:=
 ∀n,n<m→∀ cs d ps,DataW.trod enc P W 0 (fun _=>true) true n t cs=some (d,ps)→∃ a,R.rel (Lt W.heap.size) W cs a∧sz a≤Rows.uptoBulk d
theorem Opens.less{m m':Nat}{t:TypeId}{R:Rp α}{sz:α→Nat}(h:Opens enc P W m t R sz)(hm:m'≤m):Opens enc P W m' t R sz:=fun n hn=>h n (by omega)
theorem Opens.bool{t:TypeId}(ht:P.underlying t=some .bool)(m:Nat):Opens enc P W m t Rp.bool (fun _=>1):=by
 intro n _ cs d ps h;obtain⟨b,rfl,hx⟩:=DataW.trod_bool ht h;simp only[Prod.mk.injEq]at hx;exact⟨b,rfl,by rw[hx.1];simp[Rows.uptoBulk]⟩
theorem Opens.int{t:TypeId}{k:IntKind}(ht:P.underlying t=some (.int k))(m:Nat):Opens enc P W m t (Rp.int k) (fun _=>1):=by
 intro n _ cs d ps h;obtain⟨x,rfl,hx,hw⟩:=DataW.trod_int ht h;simp only[Prod.mk.injEq]at hx;simp only[Lit.wf,Bool.and_eq_true,decide_eq_true_eq]at hw;exact⟨x,⟨rfl,hw.1,hw.2⟩,by rw[hx.1];simp[Rows.uptoBulk]⟩
theorem Opens.map{m:Nat}{t:TypeId}{R:Rp α}{sz:α→Nat}(f:β→α)(g:α→β)(hg:∀ a,f (g a)=a)(h:Opens enc P W m t R sz):Opens enc P W m t (R.map f) (fun b=>sz (f b)):=by
 intro n hn cs d ps hx;obtain⟨a,h1,h2⟩:=h n hn cs d ps hx;exact⟨g a,by show R.rel _ _ _ (f (g a));rw[hg];exact h1,by show sz (f (g a))≤_;rw[hg];exact h2⟩
theorem kH{base:Nat}{a:Addr}{n:Nat}{cs:List Value}(h:W.cells? base a n=some cs)(hn:0<n):a.spot=none∧a.block<W.heap.size∧cs.length=n∧∀ j (hj:j<cs.length),W.cell? ⟨a.block,a.off+j,none⟩=some cs[j]:=by
 obtain⟨_,hl,hc⟩:=World.cells?_some h;have h0:=hc 0 hn;have hz:a.add 0=a:=by simp[Addr.add]
 rw[hz,List.getElem?_eq_getElem (by omega)]at h0;have hs:=World.cell?_spot h0;refine⟨hs,xd (b:=a.block) (o:=a.off) (s:=a.spot) h0,hl,fun j hj=>?_⟩;have:=hc j (by omega);rw[List.getElem?_eq_getElem hj]at this;rw[show (⟨a.block,a.off+j,none⟩:Addr)=a.add j by
  obtain⟨b,o,s⟩:=a;simp only at hs;subst hs;unfold Addr.add;split<;>simp_all]
 exact this
theorem Opens.slice{m:Nat}{t e:TypeId}{R:Rp α}{sz:α→Nat}(ht:P.underlying t=some (.slice e))(hk:P.cellsOf e=R.k)(hp:0<R.k)(he:Opens enc P W m e R sz):
  Opens enc P W (m+1) t (Rp.slice R) (fun l=>(l.map sz).sum+1):=by
 intro n hn cs d ps h;rcases DataW.trod_slice ht h with ⟨rfl,hx⟩ | ⟨a,len,cap,elems,rest,n',hf,rfl,hx,_,hl,hm,hlen,hel,_,_⟩
 ·simp only[Prod.mk.injEq]at hx;exact⟨[],⟨none,0,rfl,by simp,by simp[maxLen],by simp⟩,by rw[hx.1];simp[Rows.uptoBulk]⟩
 ·simp only[Prod.mk.injEq]at hx;have hall:∀ i,i<len→∃ x:α×List Value,(W.cells? 0 (a.add (i*P.cellsOf e)) (P.cellsOf e)=some x.2∧R.rel (Lt W.heap.size) W x.2 x.1∧∃ hi:i<elems.length,sz x.1≤Rows.uptoBulk elems[i].1):=by
   intro i hi;have h1:=hel i hi;rw[List.getElem?_eq_getElem (by omega)]at h1;obtain⟨cs',hc1,hc2⟩:=Option.bind_eq_some_iff.1 h1;obtain⟨x,hx1,hx2⟩:=he n' (by omega) cs' elems[i].1 elems[i].2 hc2;exact⟨(x,cs'),hc1,hx1,by omega,hx2⟩
  obtain⟨xs,hxl,hxs⟩:=jL len hall;refine⟨xs.map (·.1),⟨some a,cap,by simp[hxl],by simp[hxl,hl],hm,fun h0=>?_⟩,?_⟩
  ·have h0':0<len:=by simpa[hxl] using h0
   have hc0:=(hxs 0 (by omega)).1;have hz:=kH hc0 (by rw[hk];exact hp);have ha0:a.add (0*P.cellsOf e)=a:=by simp[Addr.add]
   rw[ha0]at hz;refine⟨a.block,a.off,?_,hz.2.1,fun i hi=>?_⟩
   ·obtain⟨b,o,s⟩:=a;simp only at hz;rw[hz.1]
   ·have hi':i<xs.length:=by simpa using hi
    obtain⟨hc,hr,_⟩:=hxs i hi';refine⟨(xs[i]).2,by simpa using hr,fun j hj=>?_⟩;have:=(kH hc (by rw[hk];exact hp)).2.2.2 j hj;rw[hk]at this;have e1:(a.add (i*R.k)).block=a.block:=by unfold Addr.add;split<;>rfl
    have e2:(a.add (i*R.k)).off=a.off+i*R.k:=by unfold Addr.add;split<;>simp_all
    rw[e1,e2,Nat.add_assoc]at this;exact this
  ·rw[hx.1];simp only[Rows.uptoBulk];have hsum:∀ (ys:List (α×List Value)) (es:List (DataW H×List MemPlace)),ys.length=es.length→(∀i (h:i<ys.length) (h':i<es.length),sz ys[i].1≤Rows.uptoBulk es[i].1)→((ys.map (·.1)).map sz).sum≤Rows.uptoBulkAll (es.map (·.1)):=by
    intro ys
    induction ys with
    | nil=>intro es _ _;simp
    | cons y ys ih=>
      intro es hl h;cases es with
      | nil=>simp at hl
      | cons z es=>
        have h0:=h 0 (by simp) (by simp);have h1:=ih es (by simpa using hl) (fun i h1 h2=>h (i+1) (by simpa using h1) (by simpa using h2));simp only[List.getElem_cons_zero]at h0;simp only[List.map_cons,List.sum_cons,Rows.uptoBulkAll];omega
   have:=hsum xs elems (by omega) (fun i h1 h2=>(hxs i h1).2.2.2);omega
end
end Go.Proofs.YthdkkpocihkgbaaGreatDoor
namespace Go.Proofs.YthdkkpocihkgbaaGreatDoor
open Go.RowKit Go.ChangeShapes Go.WideShapes
section
variable {H:Type}{enc:TypeId×Value→H}{P:Program}{W:World}{α β:Type}{m:Nat}
def OD(enc:TypeId×Value→H)(P:Program)(W:World)(m:Nat)(t:TypeId)(Q:List D→Prop):Prop:=
 ∀n,n<m→∀ cs d ps,DataW.trod enc P W 0 (fun _=>true) true n t cs=some (d,ps)→∃ ds,RDs (Lt W.heap.size) W cs ds∧Q ds
theorem OD.less{m':Nat}{t:TypeId}{Q:List D→Prop}(h:OD enc P W m t Q)(hm:m'≤m):OD enc P W m' t Q:=fun n hn=>h n (by omega)
theorem OD.imp{t:TypeId}{Q Q':List D→Prop}(h:OD enc P W m t Q)(hq:∀ ds,Q ds→Q' ds):OD enc P W m t Q':=fun n hn cs d ps hx=>by
 obtain⟨ds,h1,h2⟩:=h n hn cs d ps hx;exact⟨ds,h1,hq ds h2⟩
theorem RDs.val{S:Nat→Prop}{w:World}{v:Value}(h:v.oneCell'=true):RDs S w [v] [.v v]:= .cons (.v h) .nil
def Ev(ds:List D):Prop:=∃ b,ds=[.v (.bool b)]
def Fg(k:IntKind)(ds:List D):Prop:=∃ n,ds=[.v (.int k n)]∧k.min≤n∧n≤k.max
def QList(Q:List D→Prop)(ds:List D):Prop:=∃ xs:List (List D),ds=[.l xs]∧(∀x∈xs,Q x)∧xs.length≤9223372036854775807
def QAll:List (List D→Prop)→List D→Prop
 | [],ds=>ds=[]
 | Q::Qs,ds=>∃ d r,ds=d++r∧Q d∧QAll Qs r
def ER{γ:Type}(en:γ→List D)(ok:γ→Prop)(ds:List D):Prop:=∃ a,ds=en a∧ok a
theorem QList.of{γ:Type}{Q:List D→Prop}{en:γ→List D}{ok:γ→Prop}(h:∀ ds,Q ds→ER en ok ds){ds:List D}(hq:QList Q ds):ER (fun l:List γ=>[.l (l.map en)]) (fun l=>(∀x∈l,ok x)∧l.length≤9223372036854775807) ds:=by
 obtain⟨xs,rfl,h1,h2⟩:=hq;have:∀ xs:List (List D),(∀x∈xs,Q x)→∃ l:List γ,xs=l.map en∧∀ x∈l,ok x:=by
  intro xs
  induction xs with
  | nil=>intro _;exact⟨[],rfl,by simp⟩
  | cons x xs ih=>
    intro hx;obtain⟨a,e1,e2⟩:=h x (hx x (by simp));obtain⟨l,e3,e4⟩:=ih fun y hy=>hx y (by simp[hy]);refine⟨a::l,by rw[e1,e3];rfl,fun y hy=>?_⟩;rcases List.mem_cons.1 hy with e5 | e5
    ·rw[e5];exact e2
    ·exact e4 y e5
 obtain⟨l,e1,e2⟩:=this xs h1;subst e1;exact⟨l,rfl,e2,by simpa using h2⟩
theorem OD.bool{t:TypeId}(ht:P.underlying t=some .bool)(m:Nat):OD enc P W m t Ev:=by
 intro n _ cs d ps h;obtain⟨b,rfl,hx⟩:=DataW.trod_bool ht h;exact⟨_,.val rfl,b,rfl⟩
theorem OD.int{t:TypeId}{k:IntKind}(ht:P.underlying t=some (.int k))(m:Nat):OD enc P W m t (Fg k):=by
 intro n _ cs d ps h;obtain⟨x,rfl,hx,hw⟩:=DataW.trod_int ht h;simp only[Lit.wf,Bool.and_eq_true,decide_eq_true_eq]at hw;exact⟨_,.val rfl,x,rfl,hw.1,hw.2⟩
theorem OD.slice{t e:TypeId}{k:Nat}{Q:List D→Prop}(ht:P.underlying t=some (.slice e))(hk:P.cellsOf e=k+1)(he:OD enc P W m e Q):OD enc P W (m+1) t (QList Q):=by
 intro n hn cs d ps h;rcases DataW.trod_slice ht h with ⟨rfl,hx⟩ | ⟨a,len,cap,elems,rest,n',hf,rfl,hx,_,hl,hm,hlen,hel,_,_⟩
 ·exact⟨[.l []],.cons .nil .nil,[],rfl,by simp,by simp⟩
 ·have hall:∀ i,i<len→∃ x:List D×List Value,W.cells? 0 (a.add (i*P.cellsOf e)) (P.cellsOf e)=some x.2∧RDs (Lt W.heap.size) W x.2 x.1∧Q x.1:=by
   intro i hi;have h1:=hel i hi;rw[List.getElem?_eq_getElem (by omega)]at h1;obtain⟨cs',hc1,hc2⟩:=Option.bind_eq_some_iff.1 h1;obtain⟨x,hx1,hx2⟩:=he n' (by omega) cs' elems[i].1 elems[i].2 hc2;exact⟨(x,cs'),hc1,hx1,hx2⟩
  obtain⟨xs,hxl,hxs⟩:=jL len hall;have hlm:len≤9223372036854775807:=by unfold maxLen at hm;omega
  refine⟨[.l (xs.map (·.1))],.cons ?_ .nil,xs.map (·.1),rfl,fun x hx=>?_,by simp;omega⟩
  ·refine RD.kC (k:=k+1) (css:=xs.map (·.2)) (by simp[hxl]) hl hm (by simp) (fun i h=>?_) (fun i h h'=>?_) (fun h0=>?_)
   ·have hi:i<xs.length:=by simpa using h
    obtain⟨hc,hr,_⟩:=hxs i hi;have:=(kH hc (by omega)).2.2.1;rw[List.getElem_map,←hr.1,this,hk]
   ·have hi:i<xs.length:=by simpa using h
    rw[List.getElem_map,List.getElem_map];exact(hxs i hi).2.1
   ·have hc0:=(hxs 0 (by omega)).1;have hz:=kH hc0 (by omega);have ha0:a.add (0*P.cellsOf e)=a:=by simp[Addr.add]
    rw[ha0]at hz;refine⟨a.block,a.off,?_,hz.2.1,fun i h j v hv=>?_⟩
    ·obtain⟨b,o,s⟩:=a;simp only at hz;rw[hz.1]
    ·have hi:i<xs.length:=by simpa using h
     obtain⟨hc,hr,_⟩:=hxs i hi;rw[List.getElem_map]at hv;obtain⟨hj,hv⟩:=List.getElem?_eq_some_iff.1 hv;have:=(kH hc (by omega)).2.2.2 j hj;rw[hk]at this;have e1:(a.add (i*(k+1))).block=a.block:=by unfold Addr.add;split<;>rfl
     have e2:(a.add (i*(k+1))).off=a.off+i*(k+1):=by unfold Addr.add;split<;>simp_all
     rw[e1,e2]at this;rw[this,hv]
  ·obtain⟨y,hy,rfl⟩:=List.mem_map.1 hx;obtain⟨i,hi,rfl⟩:=List.getElem_of_mem hy;exact(hxs i hi).2.2
def ODs(enc:TypeId×Value→H)(P:Program)(W:World)(m:Nat):List (Nat×Nat)→List (List D→Prop)→Prop
 | [],[]=>True
 | f::fs,Q::Qs=>OD enc P W m f.1 Q∧ODs enc P W m fs Qs
 | _,_=>False
theorem ODs.at:∀ {fs:List (Nat×Nat)} {Qs:List (List D→Prop)},ODs enc P W m fs Qs→fs.length=Qs.length∧∀ i (h:i<fs.length) (h':i<Qs.length),OD enc P W m fs[i].1 Qs[i]
 | [],[],_=>⟨rfl,fun i h=>absurd h (by simp)⟩
 | f::fs,Q::Qs,h=>by
   obtain⟨h1,h2⟩:=ODs.at h.2;refine⟨by simp[h1],fun i h3 h4=>?_⟩;cases i with
   | zero=>exact h.1
   | succ i=>exact h2 i (by simpa using h3) (by simpa using h4)
theorem QAll.two{A B:List D→Prop}{ds:List D}(h:QAll [A,B] ds):∃ a b,ds=a++b∧A a∧B b:=by
 obtain⟨a,r,rfl,h1,b,r',rfl,h2,h3⟩:=h;obtain rfl:r'=[]:=h3;exact⟨a,b,by simp,h1,h2⟩
end
end Go.Proofs.YthdkkpocihkgbaaGreatDoor
namespace Go.Proofs.YthdkkpocihkgbaaGreatDoor
open Go.RowKit Go.ChangeShapes Go.WideShapes Go.ChangeAt
theorem CQ:ownKnob Tryz.prog.godebug=none:=by kernel_rfl
theorem vv:laidOutB Tryz.prog=true:=by kernel_rfl
theorem BB:mapsRowed Tryz.prog=true:=by kernel_rfl
theorem zK:(Tryz.prog).stopsHeard=true:=by kernel_rfl
theorem zD:(Tryz.prog).mayEnter=true:=by kernel_rfl
