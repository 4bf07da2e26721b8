import Derived.OpenShut
import Derived.JoinedOf
import Derived.Test.YthdkkpocihkgbaaGreatDoorPlB
import Derived.Test.YthdkkpocihkgbaaGreatDoorOpenN
import Derived.Test.YthdkkpocihkgbaaGreatDoorK3
import Derived.Test.YthdkkpocihkgbaaGreatDoorChecked
import Derived.Test.YthdkkpocihkgbaaGreatDoorLaw
namespace Go.Proofs.YthdkkpocihkgbaaGreatDoor
open Go.RowKit
attribute [local irreducible] AC Do St
theorem ofQ_bd(q:QP)(hq:okQP q):bdPP 256 (ofQ16 q)∧(∀a∈(ofQ16 q).ats,Bd 256 a.e.c∧(∀t∈a.e.t,Bd 256 t.2)∧a.e.t.length≤12)∧(ofQ16 q).ats.length≤210∧okT (ofQ16 q).bad:=by
 refine⟨⟨fun s hs=>?_,?_⟩,fun a ha=>?_,?_,hq.bad⟩
 ·obtain⟨x,hx,rfl⟩:=List.mem_map.1 hs
  have:=hq.box x (List.mem_of_mem_take hx)
  exact⟨bdN _ this.1,bdN _ this.2⟩
 ·show ((q.box.take 40).map ofS).length≤_
  rw[List.length_map,List.length_take]
  omega
 ·obtain⟨x,hx,rfl⟩:=List.mem_map.1 ha
  have:=atN_sm x (hq.ats x (List.mem_of_mem_take hx))
  exact⟨this.c,this.t,this.n⟩
 ·show ((q.ats.take 210).map atN).length≤_
  rw[List.length_map,List.length_take]
  omega
theorem chk16(q:QP)(hq:okQP q)(i o:Int)(hi: -9223372036854775808≤i∧i≤9223372036854775807):Fn Tryz.prog 31 [.g (enPP (ofQ16 q)),.d (.v (.int .i64 i)),.d (.v (.int .i64 o))] [.d (.v (.int .i64 (chkPP (ofQ16 q) i o)))]∧Fn Tryz.prog 33 [.g (enPQ (cutP (ofQ16 q))),.d (.v (.int .i64 i)),.d (.v (.int .i64 o))] [.d (.v (.int .i64 (chkPP (ofQ16 q) i o)))]∧Fn Tryz.prog 34 [.g (enPP (ofQ16 q))] [.g (enPQ (cutP (ofQ16 q)))]:=by
 obtain⟨h1,h2,h3,h4⟩:=ofQ_bd q hq
 have hl:lenPP (ofQ16 q):=⟨by omega,fun a ha=>by have:=(h2 a ha).2.2;omega⟩
 refine⟨propCheck _ i o h1 (by decide) hl h4,?_,told16 _ (by decide) h1 (fun a ha=>⟨(h2 a ha).1,(h2 a ha).2.1,by have:=(h2 a ha).2.2;omega⟩) (by omega) h4⟩
 have:=check16 (cutP (ofQ16 q)) i o h1 (by decide) hl (cutT_ok h4) hi
 rw[show chk11 (cutP (ofQ16 q)).bad (cutP (ofQ16 q)).ats.length=chkT (ofQ16 q).bad (ofQ16 q).ats.length from chk_same _ _]at this
 exact this
set_option maxRecDepth 100000 in
set_option maxHeartbeats 8000000 in
theorem propChecksF{Kw:World→Prop}[KSt Kw][KHas Kw Tab][KHas Kw MaxL](q:QP)(hq:okQP q)(i o:Int)(hi: -9223372036854775808≤i∧i≤9223372036854775807):FnK Tryz.prog 8 Kw [.g (enQP q),.d (.v (.int .i64 i)),.d (.v (.int .i64 o))] [.d (.v (.bool true))]:=by
 have hw:=awake16 (Kw:=Kw)
 have hof:=of16 q hq
 obtain⟨h1,h2,h3⟩:=chk16 q hq i o hi
 generalize ofQ16 q=p at*
 generalize chkPP p i o=e at*
 obtain⟨bx,ats,bad⟩:=q
 rw[show enQP ⟨bx,ats,bad⟩=[.l (bx.map enPr),.l (ats.map enAN)]++enF bad from rfl]at hof ⊢
 refine FnK.of Tryz.func8 rfl (by kernel_rfl) Tryz.ntmps8 Tryz.results8 rfl fun w0 S0 hK0=>?_
 refine wk ?_
 refine c1 hw ?_
 refine wk ?_
 refine c1 hof ?_
 refine wk ?_
 refine c1 h1 ?_
 refine wk ?_
 refine c1 hof ?_
 refine c1 h3 ?_
 refine wk ?_
 refine c1 h2 ?_
 refine wk ?_
 exact⟨.d rfl (.inl rfl),trivial⟩
end Go.Proofs.YthdkkpocihkgbaaGreatDoor
namespace Go.Proofs.YthdkkpocihkgbaaGreatDoor
open Go.RowKit
section
variable {H:Type}{enc:TypeId×Value→H}{P:Program}{W:World}
theorem OD.arr2{m t e k:Nat}{Q:List D→Prop}(ht:P.underlying t=some (.array 2 e))(hk:P.cellsOf e=k)(hkt:P.cellsOf t=2*k)(he:OD enc P W m e Q):OD enc P W (m+1) t (fun ds=>∃ a b,ds=a++b∧Q a∧Q b):=by
 intro n hn cs d ps hx
 obtain⟨xs,n',rfl,_,hc,hl,hp⟩:=DataW.trod_array ht hx
 rw[hk]at hp
 rw[hkt]at hc
 have h0:=hp 0 (by omega)
 have h1:=hp 1 (by omega)
 rw[List.getElem?_eq_getElem (by omega)]at h0 h1
 obtain⟨a,ha,qa⟩:=he n' (by omega) _ xs[0].1 xs[0].2 h0
 obtain⟨b,hb,qb⟩:=he n' (by omega) _ xs[1].1 xs[1].2 h1
 refine⟨a++b,?_,a,b,rfl,qa,qb⟩
 have e:cs=(cs.drop (0*k)).take k++(cs.drop (1*k)).take k:=by
  rw[Nat.zero_mul,List.drop_zero,Nat.one_mul,List.take_of_length_le (l:=cs.drop k) (by rw[List.length_drop];omega),List.take_append_drop]
 rw[e]
 exact ha.app hb
end
section
variable {H:Type}{enc:TypeId×Value→H}{W:World}
theorem odF(m:Nat):OD enc Tryz.prog W m 76 (QOf enF okT):=by
 induction m using Nat.strongRecOn with | _ m ih=>?_
 cases m with
 | zero=>intro n hn;omega
 | succ m=>
   have hs:OD enc Tryz.prog W m 74 (QList (QOf enF okT)):=by
    cases m with
    | zero=>intro n hn;omega
    | succ m=>exact OD.slice (by kernel_rfl) (k:=2) (by kernel_rfl) (ih m (by omega))
   refine(OD.fields (l:=[(3,0),(3,1),(74,2)]) (Qs:=[QInt .i64,QInt .i64,QList (QOf enF okT)]) (by kernel_rfl) (by kernel_rfl) ⟨odI m,odI m,hs,trivial⟩).imp fun ds h=>?_
   obtain⟨a,b,c,rfl,⟨x,rfl,_,_⟩,⟨y,rfl,_,_⟩,hc⟩:=h.three
   obtain⟨l,rfl,hl,hm⟩:=QList.of (fun _ h=>h) hc
   refine⟨.mk x y l,by rw[enF_mk];rfl,?_⟩
   rw[okT]
   exact⟨hm,okTs_all hl⟩
theorem odPr(m:Nat):OD enc Tryz.prog W m 163 (QOf enPr fun s=>okN s.1∧okN s.2):=by
 cases m with
 | zero=>intro n hn;omega
 | succ m=>
   refine(OD.arr2 (e:=128) (k:=3) (by kernel_rfl) (by kernel_rfl) (by kernel_rfl) (odN m)).imp fun ds h=>?_
   obtain⟨a,b,rfl,⟨x,rfl,hx⟩,y,rfl,hy⟩:=h
   exact⟨(x,y),rfl,hx,hy⟩
theorem odQP(m:Nat):OD enc Tryz.prog W m 78 (QOf enQP okQP):=by
 rcases m with _ | _ | m
 ·intro n hn;omega
 ·intro n hn cs d ps h
  obtain rfl:n=0:=by omega
  simp[DataW.trod]at h
 ·refine(OD.fields (l:=[(72,0),(73,1),(76,2)]) (Qs:=[QList (QOf enPr fun s=>okN s.1∧okN s.2),QList (QOf enAN fun a=>okEN a.e∧ -9223372036854775808≤a.op∧a.op≤9223372036854775807),QOf enF okT]) (by kernel_rfl) (by kernel_rfl)
   ⟨OD.slice (by kernel_rfl) (k:=5) (by kernel_rfl) (odPr m),OD.slice (by kernel_rfl) (k:=4) (by kernel_rfl) (odA m),odF (m+1),trivial⟩).imp fun ds h=>?_
  obtain⟨a,b,c,rfl,ha,hb,f,rfl,hf⟩:=h.three
  obtain⟨l,rfl,hl,_⟩:=QList.of (fun _ h=>h) ha
  obtain⟨r,rfl,hr,_⟩:=QList.of (fun _ h=>h) hb
  exact⟨⟨l,r,f⟩,rfl,hl,fun a ha=>(hr a ha).1,hf⟩
end
end Go.Proofs.YthdkkpocihkgbaaGreatDoor
namespace Go.Proofs.YthdkkpocihkgbaaGreatDoor
open Go.RowKit Go.ChangeShapes Go.WideShapes Go.ChangeAt
theorem pf_own:ownKnob Tryz.prog.godebug=none:=by kernel_rfl
theorem pf_laid:laidOutB Tryz.prog=true:=by kernel_rfl
theorem pf_maps:mapsRowed Tryz.prog=true:=by kernel_rfl
theorem pf_heard:(Tryz.prog).stopsHeard=true:=by kernel_rfl
theorem pf_enter:(Tryz.prog).mayEnter=true:=by kernel_rfl
end Go.Proofs.YthdkkpocihkgbaaGreatDoor
