import Derived.Shelf.LaysM
import Derived.Shelf.Strconv.Itoa3
import Derived.Lib.AppendIntMem
import Derived.Lib.ItoaLen
import Derived.Test.YthdkkpocihkgbaaGreatDoorProg
import Derived.Test.YthdkkpocihkgbaaGreatDoorBr
import Derived.Test.YthdkkpocihkgbaaGreatDoorPrE
import Derived.Test.YthdkkpocihkgbaaGreatDoorPrJ
import Derived.Test.YthdkkpocihkgbaaGreatDoorDigA
import Derived.Test.YthdkkpocihkgbaaGreatDoorNtB
set_option maxRecDepth 100000
set_option maxHeartbeats 2000000
namespace Go.Proofs
open Go.Shelf
def Tryz.laysM171_ren:Go.Shelf.Ren:=⟨fun | 171=>99 | 243=>157 | 246=>203 | 283=>236 | 284=>237 | 285=>238 | 286=>239 | 129=>261 | 317=>260 | 318=>262 | 319=>263 | 320=>264 | 337=>279 | 338=>280 | n=>n,fun | 3=>3 | 9=>9 | 2=>2 | 4=>4 | 171=>356 | 0=>0 | 53=>218 | 37=>270 | 5=>5 | 173=>359 | 212=>377 | 51=>229 | 20=>20 | 213=>378 | 46=>287 | 232=>403 | 233=>404 | n=>n,fun | 17=>1 | 18=>6 | 19=>7 | n=>n⟩
theorem Tryz.laysM171:Go.Proofs.LaysM.n171 Tryz.prog Tryz.laysM171_ren:={
 mixed:=by kernel_rfl
 f129:=Tryz.func261.trans (congrArg some (by kernel_rfl))
 f171:=Tryz.func99.trans (congrArg some (by kernel_rfl))
 f243:=Tryz.func157.trans (congrArg some (by kernel_rfl))
 f246:=Tryz.func203.trans (congrArg some (by kernel_rfl))
 f283:=Tryz.func236.trans (congrArg some (by kernel_rfl))
 f284:=Tryz.func237.trans (congrArg some (by kernel_rfl))
 f285:=Tryz.func238.trans (congrArg some (by kernel_rfl))
 f286:=Tryz.func239.trans (congrArg some (by kernel_rfl))
 f317:=Tryz.func260.trans (congrArg some (by kernel_rfl))
 f318:=Tryz.func262.trans (congrArg some (by kernel_rfl))
 f319:=Tryz.func263.trans (congrArg some (by kernel_rfl))
 f320:=Tryz.func264.trans (congrArg some (by kernel_rfl))
 f337:=Tryz.func279.trans (congrArg some (by kernel_rfl))
 f338:=Tryz.func280.trans (congrArg some (by kernel_rfl))
 t0:=Tryz.underlying0
 a0:=Tryz.isAgg0
 z0:=Tryz.sizeOf0
 v0:=Tryz.zeroValue0
 t2:=Tryz.underlying2
 a2:=Tryz.isAgg2
 z2:=Tryz.sizeOf2
 v2:=Tryz.zeroValue2
 t3:=Tryz.underlying3
 a3:=Tryz.isAgg3
 z3:=Tryz.sizeOf3
 v3:=Tryz.zeroValue3
 t4:=Tryz.underlying4
 a4:=Tryz.isAgg4
 z4:=Tryz.sizeOf4
 v4:=Tryz.zeroValue4
 t5:=Tryz.underlying5
 a5:=Tryz.isAgg5
 z5:=Tryz.sizeOf5
 v5:=Tryz.zeroValue5
 t9:=Tryz.underlying9
 a9:=Tryz.isAgg9
 z9:=Tryz.sizeOf9
 v9:=Tryz.zeroValue9
 t20:=Tryz.underlying20
 a20:=Tryz.isAgg20
 z20:=Tryz.sizeOf20
 v20:=Tryz.zeroValue20
 t37:=Tryz.underlying270
 a37:=Tryz.isAgg270
 z37:=Tryz.sizeOf270
 v37:=Tryz.zeroValue270
 t46:=Tryz.underlying287
 a46:=Tryz.isAgg287
 z46:=Tryz.sizeOf287
 v46:=Tryz.zeroValue287
 t51:=Tryz.underlying229
 a51:=Tryz.isAgg229
 z51:=Tryz.sizeOf229
 v51:=Tryz.zeroValue229
 t53:=Tryz.underlying218
 a53:=Tryz.isAgg218
 z53:=Tryz.sizeOf218
 v53:=Tryz.zeroValue218
 t171:=Tryz.underlying356
 a171:=Tryz.isAgg356
 z171:=Tryz.sizeOf356
 v171:=Tryz.zeroValue356
 t173:=Tryz.underlying359
 a173:=Tryz.isAgg359
 z173:=Tryz.sizeOf359
 v173:=Tryz.zeroValue359
 t212:=Tryz.underlying377
 a212:=Tryz.isAgg377
 z212:=Tryz.sizeOf377
 v212:=Tryz.zeroValue377
 t213:=Tryz.underlying378
 a213:=Tryz.isAgg378
 z213:=Tryz.sizeOf378
 t232:=Tryz.underlying403
 a232:=Tryz.isAgg403
 z232:=Tryz.sizeOf403
 v232:=Tryz.zeroValue403
 t233:=Tryz.underlying404
 a233:=Tryz.isAgg404
 z233:=Tryz.sizeOf404
 v233:=Tryz.zeroValue404
 g17:=by kernel_rfl
 g18:=by kernel_rfl
 g19:=by kernel_rfl
 i0:=by kernel_rfl
 i2:=by kernel_rfl
 i3:=by kernel_rfl
 i4:=by kernel_rfl
 i5:=by kernel_rfl
 i9:=by kernel_rfl
 i20:=by kernel_rfl
 i37:=by kernel_rfl
 i46:=by kernel_rfl
 i51:=by kernel_rfl
 i53:=by kernel_rfl
 i171:=by kernel_rfl
 i173:=by kernel_rfl
 i212:=by kernel_rfl
 i232:=by kernel_rfl
 i233:=by kernel_rfl
 m17:=by kernel_rfl
 m18:=by kernel_rfl
 m19:=by kernel_rfl }
open Go.RowKit Go.Sort Go.Lib in
theorem Tryz.strconv_Itoa(n:Int)(h0: -9223372036854775808≤n)(h1:n≤9223372036854775807)(w:World)(htab:Lib.TabIs Tryz.prog w "internal/strconv.uint64pow10" .u64 Lib.pow10Tab):
  Calls Tryz.prog 99 #[.int .i64 n] w fun e w'=>e= .returned (.string ⟨(Lib.itoa n).toArray⟩)∧∃ k os,w'=grow (w.drewN k) os:=Any.strconv_Itoa Tryz.laysM171 n h0 h1 w htab
end Go.Proofs
namespace Go.Proofs.YthdkkpocihkgbaaGreatDoor
open Go.RowKit
def Tab(w:World):Prop:=Lib.TabIs Tryz.prog w "internal/strconv.uint64pow10" .u64 Lib.pow10Tab
theorem Tab.ext{w w':World}(h:Tab w)(hx:Ext w w'):Tab w':=Lib.tabBelow_of_tabIs h w' hx
instance:KSt Tab:=⟨fun _ _ h hx=>Tab.ext h hx⟩
theorem itoaF(n:Int)(h0: -9223372036854775808≤n)(h1:n≤9223372036854775807):FnK Tryz.prog 99 Tab [.d (.v (.int .i64 n))] [.d (.v (.string (tx (Lib.itoa n))))]:=
 ⟨⟨_,Tryz.func99,by kernel_rfl,by kernel_rfl⟩,fun S w vs hK hS hv=>by
   obtain⟨u,rfl,ha⟩:=hv.one;have ha:RD S w u (.v (.int .i64 n)):=ha;cases ha;refine(Tryz.strconv_Itoa n h0 h1 w hK).mono ?_;rintro e w' ⟨rfl,k,os,rfl⟩;exact⟨_,rfl,Lib.below_grow _ _ (Nat.le_refl _) k os,(RD.v rfl:RD _ _ _ _)⟩⟩
end Go.Proofs.YthdkkpocihkgbaaGreatDoor
namespace Go.Proofs.YthdkkpocihkgbaaGreatDoor
open Go.RowKit
attribute [local irreducible] AC Do St
theorem enX_len(s:ST):(enX s).length=3:=rfl
def headX(s:ST):List UInt8×List ST:=match s with
 | .mk true _ _=>([],[])
 | .mk false _ []=>([],[])
 | .mk false _ (h::t)=>if h.b=true then(h.w,t)else([],[])
theorem propHead(s:ST):Fn Tryz.prog 91 [.g (enX s)] [.d (.v (.string (tx (headX s).1))),.d (.l ((headX s).2.map enX))]:=by
 obtain⟨b,w,l⟩:=s;rw[enX_mk];cases b with
 | true=>
   refine Fn.of Tryz.func91 rfl (by kernel_rfl) Tryz.ntmps91 Tryz.results91 rfl fun w0 S0=>?_;refine wk ?_;exact⟨.d rfl (.inl rfl),.d rfl (.inr rfl),trivial⟩
 | false=>
 cases l with
 | nil=>
   have e0:([]:List ST).length=0:=rfl;refine Fn.of Tryz.func91 rfl (by kernel_rfl) Tryz.ntmps91 Tryz.results91 rfl fun w0 S0=>?_;refine wk ?_;exact⟨.d rfl (.inl rfl),.d rfl (.inr rfl),trivial⟩
 | cons h t=>
 have hl:(h::t).length=t.length+1:=List.length_cons ..;have hg:(h::t)[0]?=some h:=rfl;obtain⟨hb,hw,hll⟩:=h;cases hb with
 | false=>
   refine Fn.of Tryz.func91 rfl (by kernel_rfl) Tryz.ntmps91 Tryz.results91 rfl fun w0 S0=>?_;refine wk ?_;exact⟨.d rfl (.inl rfl),.d rfl (.inr rfl),trivial⟩
 | true=>
   have htl:(t.map enX).length=t.length:=List.length_map ..;refine Fn.of Tryz.func91 rfl (by kernel_rfl) Tryz.ntmps91 Tryz.results91 rfl fun w0 S0=>?_;refine wk ?_;((try (first | intro K ms hms hK | intro K hK));(first | apply Chain.go | apply Chain.goD);exact rfl;exact rfl;exact Loc.tailL 1 rfl rfl rfl rfl (by simp) (by simp[enX_len]));refine wk ?_;exact⟨.d rfl (.inl rfl),.d rfl (.inl rfl),trivial⟩
theorem propNumber{k:Nat}(q:Rat)(h:Bd k q)(hk:k≤100000000):Fn Tryz.prog 88 [.g (enR q)] [.g (enX (.mk true (printL q) []))]:=by
 have h1:=printF h hk;have h2:=sexpWord (printL q);rw[enX_mk]at h2 ⊢;refine Fn.of Tryz.func88 rfl (by kernel_rfl) Tryz.ntmps88 Tryz.results88 rfl fun w0 S0=>?_;refine wk ?_;refine c1 h1 ?_;refine wk ?_;refine c1 h2 ?_;refine wk ?_;exact⟨.cn rfl rfl inferInstance rfl ⟨.inl rfl,.inl rfl,.inl rfl,trivial⟩,trivial⟩
def nameX(v i:Int):List UInt8:=if v<i then 120::Lib.itoa v else 121::Lib.itoa (v-i)
theorem propName(v i:Int)(hv:0≤v∧v≤1000000)(hi:0≤i∧i≤1000000):FnK Tryz.prog 194 Tab [.d (.v (.int .i64 v)),.d (.v (.int .i64 i))] [.g (enX (.mk true (nameX v i) []))]:=by
 unfold nameX;by_cases h:v<i
 ·rw[if_pos h];have h1:=itoaF v (by omega) (by omega);have h2:=sexpWord (120::Lib.itoa v);have hl:=Lib.itoa_length_le v (by omega) (by omega);rw[enX_mk]at h2 ⊢;refine FnK.of Tryz.func194 rfl (by kernel_rfl) Tryz.ntmps194 Tryz.results194 rfl fun w0 S0 hK0=>?_;refine wk ?_;refine c1 h1 ?_;((try (first | intro K ms hms hK | intro K hK));(first | apply Chain.go | apply Chain.goD);exact rfl;exact rfl;exact Loc.strAdd (s:=tx [120]) rfl rfl rfl (by show 1+(Lib.itoa v).length≤_;omega));rw[tx_app];refine wk ?_;refine c1 h2 ?_;refine wk ?_;exact⟨.cn rfl rfl inferInstance rfl ⟨.inl rfl,.inl rfl,.inl rfl,trivial⟩,trivial⟩
 ·rw[if_neg h];have h1:=itoaF (v-i) (by omega) (by omega);have h2:=sexpWord (121::Lib.itoa (v-i));have hl:=Lib.itoa_length_le (v-i) (by omega) (by omega);rw[enX_mk]at h2 ⊢;refine FnK.of Tryz.func194 rfl (by kernel_rfl) Tryz.ntmps194 Tryz.results194 rfl fun w0 S0 hK0=>?_;refine wk ?_;refine c1 h1 ?_;((try (first | intro K ms hms hK | intro K hK));(first | apply Chain.go | apply Chain.goD);exact rfl;exact rfl;exact Loc.strAdd (s:=tx [121]) rfl rfl rfl (by show 1+(Lib.itoa (v-i)).length≤_;omega));rw[tx_app];refine wk ?_;refine c1 h2 ?_;refine wk ?_;exact⟨.cn rfl rfl inferInstance rfl ⟨.inl rfl,.inl rfl,.inl rfl,trivial⟩,trivial⟩
theorem sexpRow(s:List ST)(hl:s.length≤1000000):Fn Tryz.prog 87 [.d (.l (s.map enX))] [.g (enX (.mk false [] s))]:=by
 rw[enX_mk];have hml:(s.map enX).length=s.length:=List.length_map ..;refine Fn.of Tryz.func87 rfl (by kernel_rfl) Tryz.ntmps87 Tryz.results87 rfl fun w0 S0=>?_;refine wk ?_;((try (first | intro K ms hms hK | intro K hK));(first | apply Chain.ef | apply Chain.efD);exact rfl;exact rfl;exact Do.appendN rfl rfl rfl rfl (by intro y hy;obtain⟨t,_,rfl⟩:=List.mem_map.1 hy;rfl) (by rw[hml];omega);exact rfl;exact rfl);refine Chain.frzVar 4 rfl rfl ?_;refine wk ?_;exact⟨.cn rfl rfl inferInstance rfl ⟨.inl rfl,.inl rfl,.inl rfl,trivial⟩,trivial⟩
end Go.Proofs.YthdkkpocihkgbaaGreatDoor
namespace Go.Proofs.YthdkkpocihkgbaaGreatDoor
open Go.RowKit
attribute [local irreducible] AC Do St
theorem index_at:∀ {l:List UInt8} {c:UInt8} {i:Nat},l[i]?=some c→c∉l.take i→Lib.index l [c]=(i:Int)
 | [],c,i,h,_=>by simp at h
 | b::l,c,0,h,_=>by
   have e:b=c:=by simpa using h
   unfold Lib.index;rw[if_pos (by simp[List.isPrefixOf,e])];rfl
 | b::l,c,i+1,h,hn=>by
   have h1:l[i]?=some c:=by simpa using h
   have hb:¬ c=b:=fun e=>hn (by simp[e]);have h2:c∉l.take i:=fun e=>hn (by simp[e]);unfold Lib.index;rw[if_neg (by simp[List.isPrefixOf];exact hb),index_at h1 h2,if_neg (by simp)];omega
theorem index_no:∀ {l:List UInt8} {c:UInt8},c∉l→Lib.index l [c]= -1
 | [],c,_=>rfl
 | b::l,c,h=>by
   have hb:¬ c=b:=fun e=>h (by simp[e]);have h2:c∉l:=fun e=>h (by simp[e]);unfold Lib.index;rw[if_neg (by simp[List.isPrefixOf];exact hb),index_no h2];rfl
section
variable {P:Program}{C:Cx}{o:Oper}{σ:AS}
end
theorem idx_cases:∀ (l:List UInt8) (c:UInt8),Lib.index l [c]= -1∨∃ i:Nat,Lib.index l [c]=(i:Int)∧i<l.length
 | [],c=> .inl rfl
 | b::l,c=>by
   by_cases hp:([c]:List UInt8).isPrefixOf (b::l)=true
   ·refine .inr ⟨0,?_,by simp⟩;unfold Lib.index;rw[if_pos hp];rfl
   rcases idx_cases l c with h | ⟨i,h,hi⟩
   ·refine .inl ?_;unfold Lib.index;rw[if_neg hp,h];rfl
   ·refine .inr ⟨i+1,?_,by simp;omega⟩;unfold Lib.index;rw[if_neg hp,h,if_neg (by simp)];omega
theorem cut_yes{l:List UInt8}{c:UInt8}{i:Nat}(h:Lib.index l [c]=(i:Int)):Lib.cut l [c]=(l.take i,l.drop (i+1),true):=by
 unfold Lib.cut;rw[h,if_pos (by omega)];simp
theorem cut_no{l:List UInt8}{c:UInt8}(h:Lib.index l [c]= -1):Lib.cut l [c]=(l,[],false):=by
 unfold Lib.cut;rw[h,if_neg (by omega)]
theorem pM_bar{neg:Bool}{m:List UInt8}{i:Nat}(h:Lib.index m [47]=(i:Int)):parseM neg m=match readN (m.drop (i+1))with
  | none=>none
  | some d=>ratN neg (m.take i) d:=by
 unfold parseM;rw[cut_yes h];exact if_pos rfl
theorem pM_plain{neg:Bool}{m:List UInt8}(h:Lib.index m [47]= -1)(h2:Lib.index m [46]= -1):parseM neg m=ratN neg m 1:=by
 unfold parseM;rw[cut_no h,cut_no h2];exact(if_neg Bool.false_ne_true).trans (if_neg Bool.false_ne_true)
theorem valF_add(a:Nat)(l:List UInt8):valF a l=a*10^l.length+valF 0 l:=by
 rw[valF_dval l a,valF_dval l 0,Nat.zero_mul,Nat.zero_add]
theorem pM_point{neg:Bool}{m:List UInt8}{i:Nat}(h:Lib.index m [47]= -1)(h2:Lib.index m [46]=(i:Int)):parseM neg m=match readN (m.take i),readN (m.drop (i+1))with
  | some x,some y=>some (mkRat (sgn neg (x*10^(m.drop (i+1)).length+y)) (10^(m.drop (i+1)).length))
  | _,_=>none:=by
 unfold parseM;rw[cut_no h,cut_yes h2];refine(if_neg Bool.false_ne_true).trans ((if_pos rfl).trans ?_);dsimp only;generalize m.take i=a;generalize m.drop (i+1)=b;by_cases ha:a=[]
 ·subst ha;rw[if_pos (.inl rfl),show readN []=none by decide]
 by_cases hb:b=[]
 ·subst hb;rw[if_pos (.inr rfl),show readN []=none by decide];cases readN a<;>rfl
 rw[if_neg (by simp[ha,hb])];unfold ratN;by_cases da:∀ c∈a,DigC c
 ·by_cases db:∀ c∈b,DigC c
  ·have e1:readN a=some (valF 0 a):=if_pos ⟨ha,da⟩;have e2:readN b=some (valF 0 b):=if_pos ⟨hb,db⟩;have e3:readN (a++b)=some (valF 0 (a++b)):=if_pos ⟨by simp[ha],fun c hc=>(List.mem_append.1 hc).elim (da c) (db c)⟩;have e4:valF 0 (a++b)=valF 0 a*10^b.length+valF 0 b:=by rw[valF_app,valF_add]
   rw[e1,e2,e3,e4];exact if_neg (Nat.ne_of_gt (Nat.pow_pos (by decide)))
  ·have e2:readN b=none:=if_neg fun h=>db h.2;have e3:readN (a++b)=none:=if_neg fun h=>db fun c hc=>h.2 c (List.mem_append.2 (.inr hc));rw[e2,e3];cases readN a<;>rfl
 ·have e1:readN a=none:=if_neg fun h=>da h.2;have e3:readN (a++b)=none:=if_neg fun h=>da fun c hc=>h.2 c (List.mem_append.2 (.inl hc));rw[e1,e3]
theorem readN_lt{l:List UInt8}{n:Nat}(h:readN l=some n):n<10^l.length:=by
 unfold readN at h;split at h
 ·rename_i h2;have:=valF_lt l h2.2 0;cases h;omega
 ·cases h
theorem parseR_cons(c:UInt8)(t:List UInt8):parseR (c::t)=if c=45 then parseM true t else parseM false (c::t):=by
 unfold parseR Lib.trimPrefix Lib.hasPrefix;by_cases h:c=45
 ·rw[if_pos h,h];simp[List.isPrefixOf]
 ·rw[if_neg h,if_neg (by simp[List.isPrefixOf];exact fun e=>h e.symm)];simp
theorem pow_bd{x j k:Nat}(h:x<10^j)(hj:j≤k+1):x<2^(4*k+4):=by
 refine Nat.lt_of_lt_of_le h (Nat.le_trans (m:=16^j) (Nat.pow_le_pow_left (by decide) _) ?_);rw[show (16:Nat)=2^4 from rfl,←Nat.pow_mul];exact Nat.pow_le_pow_right (by decide) (by omega)
theorem parseM_bd{neg:Bool}{m:List UInt8}{q:Rat}{k:Nat}(hm:m.length≤k)(h:parseM neg m=some q):Bd (4*k+4) q:=by
 have h1:1<2^(4*k+4):=pow_bd (j:=1) (by decide) (by omega);rcases idx_cases m 47 with hI | ⟨i,hI,hi⟩
 ·rcases idx_cases m 46 with hJ | ⟨i,hJ,hi⟩
  ·rw[pM_plain hI hJ]at h;unfold ratN at h;cases hx:readN m with
   | none=>rw[hx]at h;cases h
   | some x=>
     rw[hx]at h;replace h:some (mkRat (sgn neg x) 1)=some q:=h;cases h;exact Bd.made (by decide) (pow_bd (readN_lt hx) (by omega)) h1
  ·rw[pM_point hI hJ]at h;have hl1:(m.take i).length≤k:=by simp;omega
   have hl2:(m.take i).length+(m.drop (i+1)).length≤k:=by simp;omega
   generalize m.take i=a at h hl1 hl2;generalize m.drop (i+1)=b at h hl2;cases hx:readN a with
   | none=>rw[hx]at h;cases h
   | some x=>
     cases hy:readN b with
     | none=>rw[hx,hy]at h;cases h
     | some y=>
       rw[hx,hy]at h;cases h;have g1:=readN_lt hx;have g2:=readN_lt hy;have g3:x*10^b.length+y<10^(a.length+b.length):=by
        have:(x+1)*10^b.length≤10^a.length*10^b.length:=Nat.mul_le_mul_right _ g1;rw[Nat.add_mul,Nat.one_mul,←Nat.pow_add]at this;omega
       exact Bd.made (Nat.ne_of_gt (Nat.pow_pos (by decide))) (pow_bd g3 (by omega)) (pow_bd (j:=b.length+1) (Nat.pow_lt_pow_right (by decide) (by omega)) (by omega))
 ·rw[pM_bar hI]at h;have hl1:(m.take i).length≤k:=by simp;omega
  have hl2:(m.drop (i+1)).length≤k:=by simp;omega
  generalize m.take i=a at h hl1;generalize m.drop (i+1)=b at h hl2;cases hy:readN b with
  | none=>rw[hy]at h;cases h
  | some y=>
    rw[hy]at h;dsimp only at h;unfold ratN at h;cases hx:readN a with
    | none=>rw[hx]at h;cases h
    | some x=>
      rw[hx]at h;dsimp only at h;by_cases hy0:y=0
      ·rw[if_pos hy0]at h;cases h
      ·rw[if_neg hy0]at h;cases h;exact Bd.made hy0 (pow_bd (readN_lt hx) (by omega)) (pow_bd (readN_lt hy) (by omega))
theorem parseR_bd{l:List UInt8}{q:Rat}{k:Nat}(hl:l.length≤k)(h:parseR l=some q):Bd (4*k+4) q:=
 parseM_bd (Nat.le_trans (trimP_len l [45]) hl) h
end Go.Proofs.YthdkkpocihkgbaaGreatDoor
