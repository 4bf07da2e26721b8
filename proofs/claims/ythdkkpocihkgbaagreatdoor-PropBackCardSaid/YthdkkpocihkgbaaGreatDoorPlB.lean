import Derived.Test.YthdkkpocihkgbaaGreatDoorPlA
set_option maxRecDepth 100000
set_option maxHeartbeats 4000000
namespace Go.Proofs.YthdkkpocihkgbaaGreatDoor
open Go.RowKit
attribute [local irreducible] AC Do St
theorem digs_small{n:Nat}(h0:n≠0)(h:n<1000000000):digs 1000000000 n=[n]:=by
 rw[digs9_split h0,Nat.mod_eq_of_lt h,Nat.div_eq_of_lt h,(digs_eq_nil (by omega)).2 rfl]
theorem textL_small{n:Nat}(h0:n≠0)(h:n<1000000000):textL n=trimZ (nine n):=by
 unfold textL rawT;rw[if_neg h0,digs_small h0 h];simp
theorem textL_1:textL 1=[49]:=(textL_small (by decide) (by decide)).trans (by kernel_rfl)
theorem textL_2:textL 2=[50]:=(textL_small (by decide) (by decide)).trans (by kernel_rfl)
theorem printL_0:printL 0=[48]:=rfl
theorem printL_1:printL 1=[49]:=by
 show (if (1:Rat).num<0 then [45]else [])++(textL 1++_)=_;rw[textL_1];rfl
theorem printL_2:printL 2=[50]:=by
 show (if (2:Rat).num<0 then [45]else [])++(textL 2++_)=_;rw[textL_2];rfl
theorem printL_m1:printL (-1)=[45,49]:=by
 show (if (-1:Rat).num<0 then [45]else [])++(textL 1++_)=_;rw[textL_1];rfl
def awTx:List UInt8:=[40,98,111,120,32,40,48,32,49,41,41,32,40,98,97,100,32,40,62,32,121,48,32,40,42,32,50,32,120,48,41,41,41]
def awOut:List UInt8:=[40,98,111,120,32,40,48,32,49,41,41,10,40,98,97,100,32,40,60,32,40,43,32,40,42,32,50,32,120,48,41,32,40,42,32,45,49,32,121,48,41,41,32,48,41,41,10]
def awRM:ST:= .mk false [] [wdT [42],wdT [50],wdT [120,48]]
def awRK:ST:= .mk false [] [wdT [62],wdT [121,48],awRM]
def awRA:ST:= .mk false [] [wdT [98,111,120],.mk false [] [wdT [48],wdT [49]]]
def awRC:ST:= .mk false [] [wdT [98,97,100],awRK]
def awAtom:At:=⟨⟨[(0,2),(1,-1)],0⟩,2⟩
def awP:PP:=⟨[(0,1)],[awAtom],.mk 1 0 []⟩
theorem aw_trees:parseX (awTx.length+1) 0 awTx 0= .ok [awRA,awRC] [] 14:=by kernel_rfl
theorem form2:Form [((0:Int),(2:Rat)),(1,-1)]:=⟨by simp,fun t ht=>by
 rcases List.mem_cons.1 ht with rfl | ht
 ·decide
 ·rw[List.mem_singleton.1 ht];decide⟩
theorem aw_y0:sumX 1 (wdT [121,48])=(⟨[(1,1)],0⟩,true):=by
 unfold wdT;rw[sumX_mk,if_pos rfl];unfold leafX;rw[show varV 1 [121,48]=(1,true)from by decide+kernel];rfl
theorem aw_x0:sumX 1 (wdT [120,48])=(⟨[(0,1)],0⟩,true):=by
 unfold wdT;rw[sumX_mk,if_pos rfl];unfold leafX;rw[show varV 1 [120,48]=(0,true)from by decide+kernel];rfl
theorem aw_num(w:List UInt8)(q:Rat)(h:parseR w=some q):numX (wdT w)=(q,true):=by
 unfold numX wdT;dsimp only[ST.w,ST.b];rw[h];rfl
theorem aw_p0:parseR [48]=some 0:=by decide+kernel
theorem aw_p1:parseR [49]=some 1:=by decide+kernel
theorem aw_p2:parseR [50]=some 2:=by decide+kernel
theorem aw_mul:sumX 1 awRM=(⟨[(0,2)],0⟩,true):=by
 unfold awRM;rw[sumX_l];show lstX 1 [42] [wdT [50],wdT [120,48]]=_;unfold lstX;rw[if_neg (by decide),if_neg (by decide),if_pos rfl];dsimp only;rw[aw_num [50] 2 aw_p2,aw_x0];dsimp only;unfold scaleE;have h1:([((0:Int),(1:Rat))].map (mulT 2))=[((0:Int),(2:Rat))]:=by decide+kernel
 have h2:(2:Rat)*0=0:=by decide+kernel
 rw[h1,h2,canL_form (l:=[((0:Int),(2:Rat))]) ⟨by simp,fun t ht=>by rw[List.mem_singleton.1 ht];decide⟩];rfl
theorem aw_sub:subE ⟨[(0,2)],0⟩ ⟨[(1,1)],0⟩=⟨[(0,2),(1,-1)],0⟩:=by
 unfold subE scaleE addE;dsimp only;have h1:([((1:Int),(1:Rat))].map (mulT (-1)))=[((1:Int),(-1:Rat))]:=by decide+kernel
 have h2:(0:Rat)+(-1)*0=0:=by decide+kernel
 rw[h1,h2,canL_form (l:=[((1:Int),(-1:Rat))]) ⟨by simp,fun t ht=>by rw[List.mem_singleton.1 ht];decide⟩];rw[show ([((0:Int),(2:Rat))]++[((1:Int),(-1:Rat))])=[((0:Int),(2:Rat)),(1,-1)]from rfl,canL_form form2]
theorem aw_fm:fmX 1 awRK 0=(.mk 1 0 [],[awAtom],true):=by
 unfold awRK;rw[fmX_l,if_pos (show (wdT [62]).b=true from rfl),if_neg (show ¬kindX (wdT [62]).w≠0 from by decide)];show cmpG 0 (cmpX 1 [62] [wdT [121,48],awRM])=_;rw[show cmpX 1 [62] [wdT [121,48],awRM]=some (⟨if ([62]:List UInt8).head?=some 62 then subE (sumX 1 awRM).1 (sumX 1 (wdT [121,48])).1 else subE (sumX 1 (wdT [121,48])).1 (sumX 1 awRM).1,opX [62]⟩,(sumX 1 (wdT [121,48])).2&&(sumX 1 awRM).2)from rfl];rw[aw_y0,aw_mul,if_pos (by decide)];dsimp only;rw[aw_sub];rfl
theorem aw_pp:parsePP 1 [awRA,awRC]=some awP:=by
 show (if [98,111,120]=[98,111,120]∧[98,97,100]=[98,97,100]∧([ST.mk false [] [wdT [48],wdT [49]]]).all pairB=true then(if (bxOK [.mk false [] [wdT [48],wdT [49]]]&&(fmX 1 awRK 0).2.2)=true then some (⟨[(sideX (.mk false [] [wdT [48],wdT [49]])).1],(fmX 1 awRK 0).2.1,(fmX 1 awRK 0).1⟩:PP)else none)else none)=_;have hs:sideX (.mk false [] [wdT [48],wdT [49]])=((0,1),true):=by
  show (((numX (wdT [48])).1,(numX (wdT [49])).1),(numX (wdT [48])).2&&(numX (wdT [49])).2)=_;rw[aw_num [48] 0 aw_p0,aw_num [49] 1 aw_p1];rfl
 simp only[bxOK,List.all_cons,List.all_nil,hs,aw_fm];rfl
theorem aw_chk:pChkE (chkT awP.bad awP.ats.length) awP.box awP.ats 1 1=0:=by decide+kernel
theorem aw_par:parPR awTx 1 1=[.g (enPP awP),.d (.v (.int .i64 0))]:=by
 unfold parPR;rw[if_neg (by decide),aw_trees];show resP 1 1 (parsePP 1 [awRA,awRC])=_;rw[aw_pp];show (if chkPP awP 1 1=0 then _ else _)=_;rw[if_pos (show chkPP awP 1 1=0 from aw_chk)]
theorem aw_fine:fineX awTx:=by
 intro l r m h;rw[aw_trees]at h;cases h;refine⟨fun s hs=>?_,fun c hc f hf=>?_⟩
 ·have sw:∀ w:List UInt8,w.length≤20000→swX (wdT w):=fun w h=>by unfold wdT;rw[swX_mk,swXs];exact⟨h,trivial⟩
  have sl:∀ l:List ST,(∀x∈l,swX x)→swX (.mk false [] l):=fun l h=>by
   rw[swX_mk];refine⟨by decide,?_⟩;clear hs
   induction l with
   | nil=>rw[swXs];trivial
   | cons x r ih=>rw[swXs];exact⟨h x (by simp),ih fun y hy=>h y (by simp[hy])⟩
  rcases List.mem_cons.1 hs with rfl | hs
  ·refine sl _ fun x hx=>?_;simp only[List.mem_cons,List.not_mem_nil,or_false]at hx;rcases hx with rfl | rfl
   ·exact sw _ (by decide)
   ·refine sl _ fun x hx=>?_;simp only[List.mem_cons,List.not_mem_nil,or_false]at hx;rcases hx with rfl | rfl<;>exact sw _ (by decide)
  ·rw[List.mem_singleton.1 hs];refine sl _ fun x hx=>?_;simp only[List.mem_cons,List.not_mem_nil,or_false]at hx;rcases hx with rfl | rfl
   ·exact sw _ (by decide)
   ·refine sl _ fun x hx=>?_;simp only[List.mem_cons,List.not_mem_nil,or_false]at hx;rcases hx with rfl | rfl | rfl
    ·exact sw _ (by decide)
    ·exact sw _ (by decide)
    ·refine sl _ fun x hx=>?_;simp only[List.mem_cons,List.not_mem_nil,or_false]at hx;rcases hx with rfl | rfl | rfl<;>exact sw _ (by decide)
 ·rcases List.mem_cons.1 hc with rfl | hc
  ·have e:f= .mk false [] [wdT [48],wdT [49]]:=by
    have:(headX awRA).2=[.mk false [] [wdT [48],wdT [49]]]:=rfl;rw[this]at hf;injection hf with h;exact h.symm
   subst e;exact⟨.small (by decide+kernel),by decide+kernel⟩
  ·obtain rfl:=List.mem_singleton.1 hc;have e:f=awRK:=by
    have:(headX awRC).2=[awRK]:=rfl;rw[this]at hf;injection hf with h;exact h.symm
   subst e;exact⟨.small (by decide+kernel),by decide+kernel⟩
theorem aw_rows:rowsP awP 1=[awRA,.mk false [] [wdT [98,97,100],.mk false [] [wdT [60],.mk false [] [wdT [43],.mk false [] [wdT [42],wdT [50],wdT [120,48]],.mk false [] [wdT [42],wdT [45,49],wdT [121,48]]],wdT [48]]]]:=by
 unfold rowsP awP;dsimp only;rw[tolX_mk,if_pos rfl];show [_,ST.mk false [] [wdT [98,97,100],cmpT 1 awAtom]]=_;unfold cmpT awAtom;dsimp only;rw[canL_form form2,show (-(0:Rat))=0 from by decide+kernel,printL_0];show [ST.mk false [] [wdT [98,111,120],.mk false [] [wdT (printL 0),wdT (printL 1)]],ST.mk false [] [wdT [98,97,100],.mk false [] [wdT (opW 2),.mk false [] [wdT [43],.mk false [] [wdT [42],wdT (printL 2),wdT (nameX 0 1)],.mk false [] [wdT [42],wdT (printL (-1)),wdT (nameX 1 1)]],wdT [48]]]]=_;rw[printL_0,printL_1,printL_2,printL_m1,show nameX 0 1=[120,48]from by decide+kernel,show nameX 1 1=[121,48]from by decide+kernel];rfl
theorem aw_all:allX (rowsP awP 1)=awOut:=by rw[aw_rows];decide+kernel
theorem aw_ch:chX (rowsP awP 1)=0:=by rw[aw_rows];decide+kernel
theorem aw_okX:okXs (rowsP awP 1):=by
 rw[aw_rows];have:∀ l:List ST,cXs l<100→(∀s∈l,wX s≤1000)→okXs l:=by
  intro l;have key:∀ (n:Nat) (s:ST),wX s<n→wX s≤1000→okX s:=by
   intro n
   induction n with
   | zero=>intro s h;omega
   | succ n ih=>
     intro s h h1;obtain⟨b,w,l⟩:=s;rw[wX_mk]at h h1;rw[okX];have h2:=cXs_len l;have h3:=cXs_w l;refine⟨by omega,by omega,?_⟩;have h4:∀ x∈l,okX x:=fun x hx=>ih x (by have:=(wXs_mem hx).1;omega) (by have:=(wXs_mem hx).1;omega);clear h h1 h2 h3
     induction l with
     | nil=>rw[okXs];trivial
     | cons x r ihr=>rw[okXs];exact⟨h4 x (by simp),ihr fun y hy=>h4 y (by simp[hy])⟩
  intro _ h2
  induction l with
  | nil=>rw[okXs];trivial
  | cons x r ihr=>
    rw[okXs];refine⟨key _ x (Nat.lt_succ_self _) (h2 x (by simp)),ihr ?_ fun y hy=>h2 y (by simp[hy])⟩;rename_i h3;rw[cXs_cons]at h3;omega
 refine this _ (by decide+kernel) fun s hs=>?_;simp only[List.mem_cons,List.not_mem_nil,or_false]at hs;rcases hs with rfl | rfl<;>decide+kernel
theorem aw_okT:okT awP.bad:=by unfold awP;dsimp only;rw[okT,okTs];exact⟨by simp,trivial⟩
theorem aw_bd:bdPP 8 awP:=⟨fun s hs=>by obtain rfl:=List.mem_singleton.1 hs;exact⟨⟨by decide,by decide⟩,⟨by decide,by decide⟩⟩,by decide⟩
theorem aw_print:FnK Tryz.prog 41 Tab [.g (enPP awP),.d (.v (.int .i64 1)),.d (.v (.int .i64 1))] [.d (.v (.string (tx awOut))),.d (.v (.int .i64 0))]:=by
 have h:=propPrint awP 1 1 ⟨fun s hs=>⟨(aw_bd.1 s hs).1.mono (by decide),(aw_bd.1 s hs).2.mono (by decide)⟩,aw_bd.2⟩ ⟨by decide,fun a ha=>by obtain rfl:=List.mem_singleton.1 ha;decide⟩ aw_okT fun _=>⟨by decide,by decide+kernel,by decide+kernel,fun a ha=>by
  obtain rfl:=List.mem_singleton.1 ha;refine⟨by unfold okOp;decide,by decide+kernel,by decide+kernel,fun t ht=>?_⟩;rcases List.mem_cons.1 ht with rfl | ht
  ·decide
  ·rw[List.mem_singleton.1 ht];decide,aw_okX,by rw[aw_all];decide⟩
 unfold prtR at h;rw[if_neg (by rw[aw_chk];decide),if_neg (by rw[aw_ch,aw_all];decide),aw_all]at h;exact h
theorem aw_viol:Fn Tryz.prog 35 [.g (enPP awP),.d (.l ([((1:Int):Rat)].map enR)),.d (.l ([((3:Int):Rat)].map enR))] [.d (.v (.bool true)),.d (.v (.int .i64 0))]:=by
 have h:=violF (k:=8) (n:=2) awP [((1:Int):Rat)] [((3:Int):Rat)] aw_bd (by decide) (by decide) ⟨by decide,fun a ha=>by obtain rfl:=List.mem_singleton.1 ha;decide⟩ aw_okT (fun q hq=>by rw[List.mem_singleton.1 hq];exact⟨by decide,by decide⟩) (fun q hq=>by rw[List.mem_singleton.1 hq];exact⟨by decide,by decide⟩) (by decide) (fun a ha=>by
  obtain rfl:=List.mem_singleton.1 ha;refine⟨⟨by decide,by decide⟩,fun t ht=>?_,by decide⟩;rcases List.mem_cons.1 ht with rfl | ht
  ·exact⟨by decide,by decide⟩
  ·rw[List.mem_singleton.1 ht];exact⟨by decide,by decide⟩) (by decide) aw_chk
 have e:(evT awP.bad (valsP awP.ats ([((1:Int):Rat)]++[((3:Int):Rat)]))&&insL awP.box [((1:Int):Rat)])=true:=by decide+kernel
 rw[e]at h;exact h
theorem awake16{Kw:World→Prop}[KSt Kw][hT:KHas Kw Tab][KHas Kw MaxL]:FnK Tryz.prog 30 Kw [] [.d (.v (.bool true))]:=by
 have h1:=propParse (Kw:=Kw) awTx 1 1 aw_fine;rw[aw_par]at h1;have h2:=aw_viol;have h3:=aw_print.to hT.1;have i1:=ratInt 1 (by decide) (by decide);have i3:=ratInt 3 (by decide) (by decide);refine FnK.of Tryz.func30 rfl (by kernel_rfl) Tryz.ntmps30 Tryz.results30 rfl fun w0 S0 hK0=>?_;refine wk ?_;refine c1 h1 ?_;refine wk ?_;refine c1 i1 ?_;refine wk ?_;refine c1 i3 ?_;refine wk ?_;refine c1 h2 ?_;refine wk ?_;refine c1 h3 ?_;refine wk ?_;((try (first | intro K ms hms hK | intro K hK));(first | apply Chain.go | apply Chain.goD);exact rfl;exact rfl;exact Loc.strEq (t:=tx awOut) (r:=true) rfl rfl rfl (txEq (decide_eq_true rfl)));refine wk ?_;exact⟨.d rfl (.inl rfl),trivial⟩
end Go.Proofs.YthdkkpocihkgbaaGreatDoor
