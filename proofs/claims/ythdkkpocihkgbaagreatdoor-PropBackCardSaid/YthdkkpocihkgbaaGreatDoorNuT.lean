import Derived.OpenShut
import Derived.JoinedOf
import Derived.Test.YthdkkpocihkgbaaGreatDoorOpenN
import Derived.Test.YthdkkpocihkgbaaGreatDoorK3
import Derived.Test.YthdkkpocihkgbaaGreatDoorPlB
import Derived.Test.YthdkkpocihkgbaaGreatDoorChecked
import Derived.Test.YthdkkpocihkgbaaGreatDoorLaw
import Derived.Test.YthdkkpocihkgbaaGreatDoorNuB
import Derived.Test.YthdkkpocihkgbaaGreatDoorKyW
set_option maxRecDepth 100000
set_option maxHeartbeats 8000000
namespace Go.Proofs.YthdkkpocihkgbaaGreatDoor
open Go.RowKit
attribute [local irreducible] AC Do St
theorem evQ_eq(e:Ex)(p:List Rat):evQ e p p.length=e.c+evalT p e.t:=by
 have:∀ n,evQ e p n=e.c+sumTo n (fun i=>coef e.t (i:Int)*p.getD i 0):=by
  intro n
  induction n with
  | zero=>simp only[evQ,sumTo];grind
  | succ n ih=>simp only[evQ,sumTo,ih];grind
 rw[this,eval_coef]
end Go.Proofs.YthdkkpocihkgbaaGreatDoor
namespace Go.Proofs.YthdkkpocihkgbaaGreatDoor
open Go.RowKit
attribute [local irreducible] AC Do St
theorem ofQ_bd(q:QP)(hq:okQP q):bdPP 256 (ofQ16 q)∧(∀a∈(ofQ16 q).ats,Bd 256 a.e.c∧(∀t∈a.e.t,Bd 256 t.2)∧a.e.t.length≤12)∧(ofQ16 q).ats.length≤210∧okT (ofQ16 q).bad:=by
 refine⟨⟨fun s hs=>?_,?_⟩,fun a ha=>?_,?_,hq.bad⟩
 ·obtain⟨x,hx,rfl⟩:=List.mem_map.1 hs;have:=hq.box x (List.mem_of_mem_take hx);exact⟨bdN _ this.1,bdN _ this.2⟩
 ·show ((q.box.take 40).map ofS).length≤_;rw[List.length_map,List.length_take];omega
 ·obtain⟨x,hx,rfl⟩:=List.mem_map.1 ha;have:=atN_sm x (hq.ats x (List.mem_of_mem_take hx));exact⟨this.c,this.t,this.n⟩
 ·show ((q.ats.take 210).map atN).length≤_;rw[List.length_map,List.length_take];omega
theorem rats_bd(l:List NN)(hl:okP l):(∀x∈rats40 l,Bd 256 x)∧(rats40 l).length≤40:=by
 unfold rats40;refine⟨fun x hx=>?_,by rw[List.length_map,List.length_take];omega⟩;obtain⟨y,hy,rfl⟩:=List.mem_map.1 hx;exact bdN _ (hl y (List.mem_of_mem_take hy))
theorem chk16(q:QP)(hq:okQP q)(i o:Int)(hi: -9223372036854775808≤i∧i≤9223372036854775807):Fn Tryz.prog 31 [.g (enPP (ofQ16 q)),.d (.v (.int .i64 i)),.d (.v (.int .i64 o))] [.d (.v (.int .i64 (chkPP (ofQ16 q) i o)))]∧Fn Tryz.prog 33 [.g (enPQ (cutP (ofQ16 q))),.d (.v (.int .i64 i)),.d (.v (.int .i64 o))] [.d (.v (.int .i64 (chkPP (ofQ16 q) i o)))]∧Fn Tryz.prog 34 [.g (enPP (ofQ16 q))] [.g (enPQ (cutP (ofQ16 q)))]:=by
 obtain⟨h1,h2,h3,h4⟩:=ofQ_bd q hq;have hl:lenPP (ofQ16 q):=⟨by omega,fun a ha=>by have:=(h2 a ha).2.2;omega⟩
 refine⟨propCheck _ i o h1 (by decide) hl h4,?_,told16 _ (by decide) h1 (fun a ha=>⟨(h2 a ha).1,(h2 a ha).2.1,by have:=(h2 a ha).2.2;omega⟩) (by omega) h4⟩;have:=check16 (cutP (ofQ16 q)) i o h1 (by decide) hl (cutT_ok h4) hi;rw[show chk11 (cutP (ofQ16 q)).bad (cutP (ofQ16 q)).ats.length=chkT (ofQ16 q).bad (ofQ16 q).ats.length from chk_same _ _]at this;exact this
def smB(p:PP):Bool:=decide (noT (cutT p.bad) 190≤190)
theorem small16(p:PP)(hok:okT p.bad):Fn Tryz.prog 39 [.g (enPP p)] [.d (.v (.bool (smB p)))]:=by
 have hT:=told11 p.bad hok;have hN:=nodesT _ (cutT p.bad) (Nat.lt_succ_self _) (cutT_ok hok) 190 (by decide) (by decide);unfold smB;obtain⟨bx,ats,bad⟩:=p;dsimp only at hT hN ⊢;rw[show enPP ⟨bx,ats,bad⟩=[.l (bx.map enSd),.l (ats.map enA)]++enF bad from rfl];generalize noT (cutT bad) 190=n at hN ⊢;by_cases h:n≤190
 ·rw[decide_eq_true h];refine Fn.of Tryz.func39 rfl (by kernel_rfl) Tryz.ntmps39 Tryz.results39 rfl fun w0 S0=>?_;refine wk ?_;refine c1 hT ?_;refine c1 hN ?_;refine wk ?_;exact⟨.d rfl (.inl rfl),trivial⟩
 ·rw[decide_eq_false h];refine Fn.of Tryz.func39 rfl (by kernel_rfl) Tryz.ntmps39 Tryz.results39 rfl fun w0 S0=>?_;refine wk ?_;refine c1 hT ?_;refine c1 hN ?_;refine wk ?_;exact⟨.d rfl (.inl rfl),trivial⟩
theorem cut_all{f:FT}(h:ndT f≤20002):cutT f=f:=by unfold cutT;rw[tolT_all f 20002 h]
theorem chkT_nd{f:FT}{n:Int}(h:chkT f n=0):ndT f≤20000:=by
 rcases Int.lt_or_le 20000 (ndT f)with h1 | h1
 ·have:=cntT_up f 0 1 (by decide) (.inr (by omega));unfold chkT at h;rw[if_pos this]at h;cases h
 ·exact h1
theorem vals_eq(ats:List At)(p:List Rat):valsQ ats p=valsP ats p:=by
 unfold valsQ valsP;refine List.map_congr_left fun a _=>?_;rw[evQ_eq]
def vioR(p:PP)(x y:List Rat):Bool:=evT p.bad (valsP p.ats (x++y))&&insL p.box x
theorem viol_both(q:QP)(hq:okQP q)(x y:List NN)(hx:okP x)(hy:okP y)(h0:chkPP (ofQ16 q) (rats40 x).length (rats40 y).length=0):Fn Tryz.prog 35 [.g (enPP (ofQ16 q)),.d (.l ((rats40 x).map enR)),.d (.l ((rats40 y).map enR))] [.d (.v (.bool (vioR (ofQ16 q) (rats40 x) (rats40 y)))),.d (.v (.int .i64 0))]∧Fn Tryz.prog 40 [.g (enPQ (cutP (ofQ16 q))),.d (.l ((rats40 x).map enQ)),.d (.l ((rats40 y).map enQ))] [.d (.v (.bool (vioR (ofQ16 q) (rats40 x) (rats40 y))))]:=by
 obtain⟨h1,h2,h3,h4⟩:=ofQ_bd q hq;obtain⟨hx1,hx2⟩:=rats_bd x hx;obtain⟨hy1,hy2⟩:=rats_bd y hy;have hl:lenPP (ofQ16 q):=⟨by omega,fun a ha=>by have:=(h2 a ha).2.2;omega⟩
 obtain⟨e0,hal,_⟩:=pChk_0 h0;have hcut:cutP (ofQ16 q)=ofQ16 q:=by
  have:=chkT_nd e0;unfold cutP;rw[cut_all (by omega)]
 refine⟨violF (k:=256) (n:=12) _ _ _ h1 (by decide) (by decide) hl h4 hx1 hy1 (by omega) h2 (by decide) h0,?_⟩;rw[hcut];have hk:((rats40 x).length+(rats40 y).length+2)*((12+2)*(256+1)+256+1)≤50000000:=by
  refine Nat.le_trans (Nat.mul_le_mul_right _ (show (rats40 x).length+(rats40 y).length+2≤82 by omega)) (by decide)
 have:=viol16 (k:=256) (n:=12) (ofQ16 q) (rats40 x) (rats40 y) h1 hx1 hy1 h2 hal (by omega) hk (by decide) h4 (chk_0 e0);rw[vals_eq,Bool.and_comm]at this;exact this
end Go.Proofs.YthdkkpocihkgbaaGreatDoor
namespace Go.Proofs.YthdkkpocihkgbaaGreatDoor
open Go.RowKit
section
variable {H:Type}{enc:TypeId×Value→H}{P:Program}{W:World}
theorem OD.arr2{m t e k:Nat}{Q:List D→Prop}(ht:P.underlying t=some (.array 2 e))(hk:P.cellsOf e=k)(hkt:P.cellsOf t=2*k)(he:OD enc P W m e Q):OD enc P W (m+1) t (fun ds=>∃ a b,ds=a++b∧Q a∧Q b):=by
 intro n hn cs d ps hx;obtain⟨xs,n',rfl,_,hc,hl,hp⟩:=DataW.trod_array ht hx;rw[hk]at hp;rw[hkt]at hc;have h0:=hp 0 (by omega);have h1:=hp 1 (by omega);rw[List.getElem?_eq_getElem (by omega)]at h0 h1;obtain⟨a,ha,qa⟩:=he n' (by omega) _ xs[0].1 xs[0].2 h0;obtain⟨b,hb,qb⟩:=he n' (by omega) _ xs[1].1 xs[1].2 h1;refine⟨a++b,?_,a,b,rfl,qa,qb⟩;have e:cs=(cs.drop (0*k)).take k++(cs.drop (1*k)).take k:=by
  rw[Nat.zero_mul,List.drop_zero,Nat.one_mul,List.take_of_length_le (l:=cs.drop k) (by rw[List.length_drop];omega),List.take_append_drop]
 rw[e];exact ha.app hb
end
section
variable {H:Type}{enc:TypeId×Value→H}{W:World}
theorem odF(m:Nat):OD enc Tryz.prog W m 76 (QOf enF okT):=by
 induction m using Nat.strongRecOn with | _ m ih=>?_
 cases m with
 | zero=>intro n hn;omega
 | succ m=>
   have hs:OD enc Tryz.prog W m 74 (QList (QOf enF okT)):=by
    cases m with
    | zero=>intro n hn;omega
    | succ m=>exact OD.slice (by kernel_rfl) (k:=2) (by kernel_rfl) (ih m (by omega))
   refine(OD.fields (l:=[(3,0),(3,1),(74,2)]) (Qs:=[QInt .i64,QInt .i64,QList (QOf enF okT)]) (by kernel_rfl) (by kernel_rfl) ⟨odI m,odI m,hs,trivial⟩).imp fun ds h=>?_;obtain⟨a,b,c,rfl,⟨x,rfl,_,_⟩,⟨y,rfl,_,_⟩,hc⟩:=h.three;obtain⟨l,rfl,hl,hm⟩:=QList.of (fun _ h=>h) hc;refine⟨.mk x y l,by rw[enF_mk];rfl,?_⟩;rw[okT];exact⟨hm,okTs_all hl⟩
theorem odPr(m:Nat):OD enc Tryz.prog W m 163 (QOf enPr fun s=>okN s.1∧okN s.2):=by
 cases m with
 | zero=>intro n hn;omega
 | succ m=>
   refine(OD.arr2 (e:=128) (k:=3) (by kernel_rfl) (by kernel_rfl) (by kernel_rfl) (odN m)).imp fun ds h=>?_;obtain⟨a,b,rfl,⟨x,rfl,hx⟩,y,rfl,hy⟩:=h;exact⟨(x,y),rfl,hx,hy⟩
theorem odQP(m:Nat):OD enc Tryz.prog W m 78 (QOf enQP okQP):=by
 rcases m with _ | _ | m
 ·intro n hn;omega
 ·intro n hn cs d ps h;obtain rfl:n=0:=by omega
  simp[DataW.trod]at h
 ·refine(OD.fields (l:=[(72,0),(73,1),(76,2)]) (Qs:=[QList (QOf enPr fun s=>okN s.1∧okN s.2),QList (QOf enAN fun a=>okEN a.e∧ -9223372036854775808≤a.op∧a.op≤9223372036854775807),QOf enF okT]) (by kernel_rfl) (by kernel_rfl)
   ⟨OD.slice (by kernel_rfl) (k:=5) (by kernel_rfl) (odPr m),OD.slice (by kernel_rfl) (k:=4) (by kernel_rfl) (odA m),odF (m+1),trivial⟩).imp fun ds h=>?_
  obtain⟨a,b,c,rfl,ha,hb,f,rfl,hf⟩:=h.three;obtain⟨l,rfl,hl,_⟩:=QList.of (fun _ h=>h) ha;obtain⟨r,rfl,hr,_⟩:=QList.of (fun _ h=>h) hb;exact⟨⟨l,r,f⟩,rfl,hl,fun a ha=>(hr a ha).1,hf⟩
end
end Go.Proofs.YthdkkpocihkgbaaGreatDoor
namespace Go.Proofs.YthdkkpocihkgbaaGreatDoor
open Go.RowKit Go.ChangeShapes Go.WideShapes Go.ChangeAt
theorem pf_own:ownKnob Tryz.prog.godebug=none:=by kernel_rfl
theorem pf_laid:laidOutB Tryz.prog=true:=by kernel_rfl
theorem pf_maps:mapsRowed Tryz.prog=true:=by kernel_rfl
theorem pf_heard:(Tryz.prog).stopsHeard=true:=by kernel_rfl
theorem pf_enter:(Tryz.prog).mayEnter=true:=by kernel_rfl
end Go.Proofs.YthdkkpocihkgbaaGreatDoor
namespace Go.Proofs.YthdkkpocihkgbaaGreatDoor
open Go.RowKit
theorem no46:¬ DigC 46:=by unfold DigC;decide
theorem readN_text(n:Nat):readN (textL n)=some n:=by
 unfold readN;rw[if_pos ⟨textL_ne n,textL_dig n⟩,textL_val]
theorem take_app{α:Type}(a b:List α)(c:α):(a++c::b).take a.length=a∧(a++c::b).drop (a.length+1)=b∧(a++c::b)[a.length]?=some c:=by
 refine⟨by simp,?_,by simp⟩;rw[List.drop_append];simp
theorem mk_back(q:Rat)(neg:Bool)(hn:neg=decide (q.num<0)):mkRat (sgn neg q.num.natAbs) q.den=q:=by
 have e:sgn neg q.num.natAbs=q.num:=by
  subst hn;exact sgn_neg q.num
 rw[e];exact Rat.mkRat_self q
theorem parseM_print(q:Rat)(neg:Bool)(hn:neg=decide (q.num<0)):parseM neg (textL q.num.natAbs++(if q.den=1 then []else 47::textL q.den))=some q:=by
 have hb:=mk_back q neg hn;by_cases hd:q.den=1
 ·rw[if_pos hd,List.append_nil,pM_plain (index_no (textL_no _ no47)) (index_no (textL_no _ no46))];unfold ratN;rw[readN_text];rw[hd]at hb;exact congrArg some hb
 ·rw[if_neg hd];obtain⟨e1,e2,e3⟩:=take_app (textL q.num.natAbs) (textL q.den) 47;rw[pM_bar (i:=(textL q.num.natAbs).length) (index_at e3 (by rw[e1];exact textL_no _ no47)),e1,e2,readN_text];dsimp only;unfold ratN;rw[readN_text];dsimp only;rw[if_neg q.den_nz,hb]
theorem parseR_print(q:Rat):parseR (printL q)=some q:=by
 unfold printL;by_cases h:q.num<0
 ·rw[if_pos h];show parseR (45::_)=_;rw[parseR_cons,if_pos rfl];exact parseM_print q true (by simp[h])
 ·rw[if_neg h,List.nil_append];have hp:=parseM_print q false (by simp[h]);have hne:=textL_ne q.num.natAbs;have hno:=textL_no q.num.natAbs no45;generalize textL q.num.natAbs=m at hp hne hno
  match m,hne,hno with
  | c::t,_,hno=>
    rw[List.cons_append]at hp ⊢;rw[parseR_cons,if_neg (fun e=>hno (by rw[e];exact List.mem_cons_self ..))];exact hp
end Go.Proofs.YthdkkpocihkgbaaGreatDoor
