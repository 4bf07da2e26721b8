import Derived.Shelf.Strconv.ErrVarAll
import Derived.Shelf.Strconv.AtoiAll
import Derived.Test.YtbbpecfapohlaaaGreatDoorPrH
import Derived.Test.YtbbpecfapohlaaaGreatDoorPrE
import Derived.Test.YtbbpecfapohlaaaGreatDoorKyW
import Derived.Test.YtbbpecfapohlaaaGreatDoorProg
import Derived.Test.YtbbpecfapohlaaaGreatDoorTab
import Derived.Test.YtbbpecfapohlaaaGreatDoorTb
import Derived.Test.YtbbpecfapohlaaaGreatDoorOw
namespace Go.Proofs.YtbbpecfapohlaaaGreatDoor
open Go.RowKit
attribute [local irreducible] AC Do St
mutual
def nfX:ST→Prop
 | .mk b w l=>(b=true→l=[])∧(b=false→w=[])∧nfXs l
def nfXs:List ST→Prop
 | []=>True
 | s::r=>nfX s∧nfXs r
end
theorem nfX_mk(b:Bool)(w:List UInt8)(l:List ST):nfX (.mk b w l)=((b=true→l=[])∧(b=false→w=[])∧nfXs l):=by rw[nfX]
theorem nfXs_mem:∀ {l:List ST},nfXs l→∀ s∈l,nfX s
 | [],_,s,h=>nomatch h
 | x::r,h,s,hs=>by
   rw[nfXs]at h
   rcases List.mem_cons.1 hs with rfl | hs
   ·exact h.1
   ·exact nfXs_mem h.2 s hs
theorem nfXs_all:∀ {l:List ST},(∀s∈l,nfX s)→nfXs l
 | [],_=>by rw[nfXs];trivial
 | x::r,h=>by rw[nfXs];exact⟨h x (by simp),nfXs_all fun s hs=>h s (by simp[hs])⟩
theorem wdXs_all:∀ (l:List ST),wdXs l=l.all wdX
 | []=>by rw[wdXs];rfl
 | x::r=>by rw[wdXs,wdXs_all r];rfl
def endX:List UInt8→Prop
 | []=>True
 | c::_=>plainB c=false
theorem tw_end{w x:List UInt8}(hw:w.all plainB=true)(hx:endX x):(w++x).takeWhile plainB=w∧(w++x).dropWhile plainB=x:=by
 induction w with
 | nil=>
   cases x with
   | nil=>exact⟨rfl,rfl⟩
   | cons c r=>
     have hx:plainB c=false:=hx
     exact⟨by simp[hx],by simp[hx]⟩
 | cons c w ih=>
   rw[List.all_cons,Bool.and_eq_true]at hw
   obtain⟨h1,h2⟩:=ih hw.2
   rw[List.cons_append,List.takeWhile_cons,List.dropWhile_cons,if_pos hw.1,if_pos hw.1,h1,h2]
   exact⟨rfl,rfl⟩
theorem parseX_32(f d:Nat)(s:List UInt8)(n:Int):parseX f d (32::s) n=parseX f d s n:=by
 rw[←parseX_sk,skX_blk (c:=32) (.inl rfl),parseX_sk]
theorem putXs_tl(f d:Nat)(l:List ST)(x:List UInt8)(n:Int):parseX f d (putXs l++x) n=parseX f d (tlX l++x) n:=by
 cases l with
 | nil=>rw[putXs,tlX]
 | cons s r=>rw[putXs,tlX,List.cons_append,parseX_32]
theorem tlX_end(l:List ST)(x:List UInt8):endX (tlX l++41::x):=by
 cases l with
 | nil=>rw[tlX];rfl
 | cons s r=>rw[tlX];rfl
theorem putX_ne(s:ST)(h:wdX s=true):putX s≠[]:=by
 obtain⟨b,w,l⟩:=s
 cases b with
 | true=>
   rw[wdX_t]at h
   rw[putX_t]
   intro e
   rw[e]at h
   cases h
 | false=>
   rw[putX_l]
   exact List.cons_ne_nil _ _
theorem parse_put:∀ (m:Nat) (s:ST),szX s<m→nfX s→wdX s=true→∀ (f d:Nat) (n:Int) (x:List UInt8),endX x→(putX s++x).length≤f→¬ (100000<n+1∨(s.b=false∧d=200))→(nuX s (n+1) d).2=true→
  parseX (f+1) d (putX s++x) n=(parseX f d x (nuX s (n+1) d).1).cons s:=by
 intro m
 induction m with
 | zero=>intro s h;omega
 | succ m ih=>
 intro s hm hnf hwd f d n x hx hf hn hnu
 obtain⟨b,w,l⟩:=s
 rw[nfX_mk]at hnf
 cases b with
 | true=>
   obtain rfl:=hnf.1 rfl
   rw[wdX_t,Bool.and_eq_true]at hwd
   obtain⟨e1,e2⟩:=tw_end hwd.2 hx
   rw[putX_t,nuX_t]
   cases w with
   | nil=>exact absurd hwd.1 (by decide)
   | cons c r=>
     have hc:plainB c=true:=by have:=hwd.2;rw[List.all_cons,Bool.and_eq_true]at this;exact this.1
     have k41:¬ c.toNat=41:=fun h=>by unfold plainB at hc;simp[h]at hc
     have k40:¬ c.toNat=40:=fun h=>by unfold plainB at hc;simp[h]at hc
     have hsk:skX false (c::r++x)=c::(r++x):=skX_stop (fun h=>by unfold plainB at hc;simp[h]at hc) (fun h=>by unfold plainB at hc;simp[h]at hc) (fun h=>by unfold plainB at hc;simp[h]at hc) (fun h=>by unfold plainB at hc;simp[h]at hc) (fun h=>by unfold plainB at hc;simp[h]at hc)
     rw[parseX,hsk]
     dsimp only
     rw[if_neg k41,if_neg (fun h=>hn (h.elim .inl fun h=>absurd h.1 k40)),if_neg k40,if_pos hc]
     rw[List.cons_append]at e1 e2
     rw[e1,e2]
 | false=>
   obtain rfl:=hnf.2.1 rfl
   rw[wdX_l,wdXs_all,List.all_eq_true]at hwd
   rw[nuX_l]at hnu ⊢
   have hln:=nfXs_mem hnf.2.2
   have hlm:∀ g∈l,szX g<m:=fun g hg=>by have:=szX_lt (b:=false) (w:=[]) hg;omega
   have row:∀ (l:List ST),(∀g∈l,szX g<m)→(∀g∈l,wdX g=true)→(∀g∈l,nfX g)→∀ (f:Nat) (k:Int),(tlX l++41::x).length≤f→(nuXs l k (d+1)).2=true→parseX f (d+1) (tlX l++41::x) k= .ok l x (nuXs l k (d+1)).1:=by
    intro l
    induction l with
    | nil=>
      intro _ _ _ f k hf _
      rw[tlX,List.nil_append]at hf ⊢
      cases f with
      | zero=>simp at hf
      | succ f=>
        rw[parseX,skX_stop (c:=41) (by decide) (by decide) (by decide) (by decide) (by decide)]
        dsimp only
        rw[if_pos (by decide),if_neg (by omega),nuXs]
    | cons s r ihr=>
      intro hlm hwd hln f k hf hk
      rw[tlX,List.cons_append,List.append_assoc]at hf ⊢
      rw[parseX_32]
      rw[nuXs]at hk ⊢
      split at hk
      ·cases hk
      ·rename_i h1
       rw[if_neg h1]
       split at hk
       ·rename_i h2
        rw[if_pos h2]
        have hp:=List.length_pos_iff.2 (putX_ne s (hwd s (by simp)))
        simp only[List.length_cons,List.length_append]at hf
        cases f with
        | zero=>omega
        | succ f=>
          rw[ih s (hlm s (by simp)) (hln s (by simp)) (hwd s (by simp)) f (d+1) k _ (tlX_end r x) (by simp only[List.length_append,List.length_cons];omega) h1 h2]
          rw[ihr (fun g hg=>hlm g (by simp[hg])) (fun g hg=>hwd g (by simp[hg])) (fun g hg=>hln g (by simp[hg])) f _ (by simp only[List.length_append,List.length_cons];omega) hk]
          rfl
       ·cases hk
   rw[putX_l,List.cons_append]at hf ⊢
   simp only[List.length_cons]at hf
   have hd:¬ d=200:=fun h=>hn (.inr ⟨rfl,h⟩)
   rw[parseX,skX_stop (c:=40) (by decide) (by decide) (by decide) (by decide) (by decide)]
   dsimp only
   rw[if_neg (by decide),if_neg (fun h=>hn (h.elim .inl fun h=>absurd h.2 hd)),if_pos (by decide)]
   rw[List.append_assoc,putXs_tl,show [41]++x=41::x from rfl]
   rw[row l hlm hwd hln f (n+1) (by
    have e:(tlX l).length≤(putXs l).length+1:=by
     cases l with
     | nil=>simp[tlX]
     | cons s r=>rw[tlX,putXs];simp
    simp only[List.length_append,List.length_cons,List.length_nil]at hf ⊢
    omega) hnu]
   rfl
end Go.Proofs.YtbbpecfapohlaaaGreatDoor
namespace Go.Proofs.YtbbpecfapohlaaaGreatDoor
open Go.RowKit
attribute [local irreducible] AC Do St
mutual
def wX:ST→Nat
 | .mk _ w l=>w.length+1+wXs l
def wXs:List ST→Nat
 | []=>0
 | s::r=>wX s+wXs r
end
mutual
def cX:ST→Nat
 | .mk _ _ l=>1+cXs l
def cXs:List ST→Nat
 | []=>0
 | s::r=>cX s+cXs r
end
theorem wX_mk(b:Bool)(w:List UInt8)(l:List ST):wX (.mk b w l)=w.length+1+wXs l:=by rw[wX]
theorem cX_mk(b:Bool)(w:List UInt8)(l:List ST):cX (.mk b w l)=1+cXs l:=by rw[cX]
theorem wXs_cons(s:ST)(r:List ST):wXs (s::r)=wX s+wXs r:=by rw[wXs]
theorem cXs_cons(s:ST)(r:List ST):cXs (s::r)=cX s+cXs r:=by rw[cXs]
theorem wXs_nil:wXs []=0:=by rw[wXs]
theorem cXs_nil:cXs []=0:=by rw[cXs]
mutual
theorem cX_w:∀ s:ST,cX s≤wX s
 | .mk b w l=>by have:=cXs_w l;rw[cX_mk,wX_mk];omega
theorem cXs_w:∀ l:List ST,cXs l≤wXs l
 | []=>by rw[cXs_nil];exact Nat.zero_le _
 | s::r=>by have:=cX_w s;have:=cXs_w r;rw[cXs_cons,wXs_cons];omega
end
theorem wXs_mem:∀ {l:List ST} {s:ST},s∈l→wX s≤wXs l∧cX s≤cXs l
 | [],s,h=>nomatch h
 | x::r,s,h=>by
   rw[wXs_cons,cXs_cons]
   rcases List.mem_cons.1 h with rfl | h
   ·omega
   ·have:=wXs_mem h;omega
theorem cX_pos(s:ST):1≤cX s:=by obtain⟨b,w,l⟩:=s;rw[cX_mk];omega
theorem cXs_len:∀ l:List ST,l.length≤cXs l
 | []=>Nat.zero_le _
 | s::r=>by have:=cXs_len r;have:=cX_pos s;rw[cXs_cons,List.length_cons];omega
theorem okX_w:∀ (m:Nat) (s:ST),wX s<m→wX s≤9223372036854775807→okX s:=by
 intro m
 induction m with
 | zero=>intro s h;omega
 | succ m ih=>
 intro s h h1
 obtain⟨b,w,l⟩:=s
 rw[wX_mk]at h h1
 rw[okX]
 have h2:=cXs_len l
 have h3:=cXs_w l
 refine⟨by omega,by omega,?_⟩
 have h4:∀ x∈l,okX x:=fun x hx=>ih x (by have:=(wXs_mem hx).1;omega) (by have:=(wXs_mem hx).1;omega)
 clear h h1 h2 h3
 induction l with
 | nil=>rw[okXs];trivial
 | cons x r ihr=>rw[okXs];exact⟨h4 x (by simp),ihr fun y hy=>h4 y (by simp[hy])⟩
theorem okXs_w{l:List ST}(h:wXs l≤9223372036854775807):okXs l:=by
 have h4:∀ x∈l,okX x:=fun x hx=>okX_w _ x (Nat.lt_succ_self _) (by have:=(wXs_mem hx).1;omega)
 clear h
 induction l with
 | nil=>rw[okXs];trivial
 | cons x r ihr=>rw[okXs];exact⟨h4 x (by simp),ihr fun y hy=>h4 y (by simp[hy])⟩
mutual
theorem putX_w:∀ s:ST,(putX s).length+1≤3*wX s
 | .mk b w l=>by
   have:=putXs_w l
   rw[putX,wX_mk]
   split
   ·omega
   ·simp only[List.length_cons,List.length_append,List.length_nil]
    omega
theorem putXs_w:∀ l:List ST,(putXs l).length≤3*wXs l
 | []=>by rw[putXs];exact Nat.zero_le _
 | s::r=>by
   have h1:=putX_w s
   have h2:=tlX_w r
   rw[putXs,wXs_cons,List.length_append]
   omega
theorem tlX_w:∀ l:List ST,(tlX l).length≤3*wXs l
 | []=>by rw[tlX];exact Nat.zero_le _
 | s::r=>by
   have h1:=putX_w s
   have h2:=tlX_w r
   rw[tlX,wXs_cons,List.length_cons,List.length_append]
   omega
end
theorem allX_w:∀ l:List ST,(allX l).length≤3*wXs l
 | []=>Nat.zero_le _
 | s::r=>by
   have h1:=putX_w s
   have h2:=allX_w r
   have e:allX (s::r)=putX s++10::allX r:=by unfold allX;simp
   rw[e,wXs_cons,List.length_append,List.length_cons]
   omega
theorem wXs_le{B:Nat}:∀ {l:List ST},(∀x∈l,wX x≤B)→wXs l≤l.length*B
 | [],_=>by rw[wXs_nil];exact Nat.zero_le _
 | x::r,h=>by
   have h1:=h x (by simp)
   have h2:=wXs_le (l:=r) fun y hy=>h y (by simp[hy])
   rw[wXs_cons,List.length_cons,Nat.add_mul,Nat.one_mul]
   omega
theorem cXs_le{B:Nat}:∀ {l:List ST},(∀x∈l,cX x≤B)→cXs l≤l.length*B
 | [],_=>by rw[cXs_nil];exact Nat.zero_le _
 | x::r,h=>by
   have h1:=h x (by simp)
   have h2:=cXs_le (l:=r) fun y hy=>h y (by simp[hy])
   rw[cXs_cons,List.length_cons,Nat.add_mul,Nat.one_mul]
   omega
theorem nf_l{l:List ST}(h:∀ x∈l,nfX x):nfX (.mk false [] l):=by
 rw[nfX_mk]
 exact⟨(fun h=>nomatch h),fun _=>rfl,nfXs_all h⟩
end Go.Proofs.YtbbpecfapohlaaaGreatDoor
namespace Go.Proofs.YtbbpecfapohlaaaGreatDoor
open Go.RowKit
attribute [local irreducible] AC Do St
def wdA(w:List UInt8):ST:= .mk true w []
def nmA(k:UInt8)(n:Int):ST:=wdA (k::Lib.itoa n)
theorem itoa_plain(n:Int)(h0:0≤n):(Lib.itoa n).all plainB=true∧Lib.itoa n≠[]:=by
 have e:Lib.itoa n=Lib.decDigits n.toNat:=if_neg (by omega)
 rw[e]
 generalize n.toNat=m
 refine⟨?_,decD_ne m⟩
 induction m using Nat.strongRecOn with
 | _ m ih=>
 have one:∀ d:Nat,d<10→plainB (UInt8.ofNat (48+d))=true:=fun d hd=>by
  have:d=0∨d=1∨d=2∨d=3∨d=4∨d=5∨d=6∨d=7∨d=8∨d=9:=by omega
  rcases this with rfl | rfl | rfl | rfl | rfl | rfl | rfl | rfl | rfl | rfl<;>decide
 rw[Lib.decDigits]
 split
 ·rename_i h
  rw[List.all_cons,one m h]
  rfl
 ·rw[List.all_append,ih (m / 10) (by omega),List.all_cons,one _ (by omega)]
  rfl
mutual
def htX:ST→Nat
 | .mk b _ l=>if b=true then 0 else 1+htXs l
def htXs:List ST→Nat
 | []=>0
 | s::r=>max (htX s) (htXs r)
end
mutual
theorem nu_ok:∀ (s:ST) (n:Int) (d:Nat),nfX s→n+cX s≤100001→d+htX s≤200→nuX s n d=(n+cX s-1,true)
 | .mk b w l,n,d,hn,hc,hd=>by
   rw[nfX_mk]at hn
   rw[cX_mk]at hc ⊢
   rw[htX]at hd
   cases b with
   | true=>
     rw[nuX_t,hn.1 rfl,cXs_nil]
     congr 1
     omega
   | false=>
     rw[if_neg (by decide)]at hd
     rw[nuX_l,nus_ok l n (d+1) hn.2.2 (by omega) (by omega)]
     congr 1
     omega
theorem nus_ok:∀ (l:List ST) (n:Int) (d:Nat),nfXs l→n+cXs l≤100000→d+htXs l≤200→nuXs l n d=(n+cXs l,true)
 | [],n,d,_,_,_=>by rw[nuXs,cXs_nil];simp
 | s::r,n,d,hn,hc,hd=>by
   rw[nfXs]at hn
   rw[cXs_cons]at hc ⊢
   rw[htXs]at hd
   have h1:=cX_pos s
   have e:=nu_ok s (n+1) d hn.1 (by omega) (by omega)
   rw[nuXs,if_neg (by
    rintro (h | ⟨h2,h3⟩)
    ·omega
    ·obtain⟨b,w,l⟩:=s
     have h2:b=false:=h2
     rw[htX,if_neg (by rw[h2];decide)]at hd
     omega),e]
   dsimp only
   rw[if_pos rfl,nus_ok r _ d hn.2 (by omega) (by omega)]
   congr 1
   omega
end
theorem nf_wdA(w:List UInt8):nfX (wdA w):=by unfold wdA;rw[nfX_mk,nfXs];exact⟨fun _=>rfl,(fun h=>nomatch h),trivial⟩
theorem c_wdA(w:List UInt8):cX (wdA w)=1:=by unfold wdA;rw[cX_mk,cXs_nil]
theorem w_wdA(w:List UInt8):wX (wdA w)=w.length+1:=by unfold wdA;rw[wX_mk,wXs_nil]
theorem h_wdA(w:List UInt8):htX (wdA w)=0:=by unfold wdA;rw[htX];rfl
theorem wd_wdA(w:List UInt8):wdX (wdA w)=(!w.isEmpty&&w.all plainB):=wdX_t _ _
structure Fit(s:ST)(c w h:Nat):Prop where
 nf:nfX s
 wd:wdX s=true
 c:cX s≤c
 w:wX s≤w
 h:htX s≤h
theorem Fit.up{s:ST}{c w h c' w' h':Nat}(f:Fit s c w h)(h1:c≤c')(h2:w≤w')(h3:h≤h'):Fit s c' w' h':=⟨f.nf,f.wd,Nat.le_trans f.c h1,Nat.le_trans f.w h2,Nat.le_trans f.h h3⟩
theorem Fit.word{w:List UInt8}(h1:w≠[])(h2:w.all plainB=true):Fit (wdA w) 1 (w.length+1) 0:=
 ⟨nf_wdA w,by rw[wd_wdA,h2];cases w with | nil=>exact absurd rfl h1 | cons c r=>rfl,Nat.le_of_eq (c_wdA w),Nat.le_of_eq (w_wdA w),Nat.le_of_eq (h_wdA w)⟩
theorem itoa_len20{n:Int}(h0:0≤n)(h:n≤9223372036854775807):(Lib.itoa n).length≤21:=Lib.itoa_length_le n (by omega) (by omega)
theorem Fit.nm{k:UInt8}{n:Int}(hk:plainB k=true)(h0:0≤n)(h:n≤9223372036854775807):Fit (nmA k n) 1 23 0:=
 (Fit.word (w:=k::Lib.itoa n) (List.cons_ne_nil _ _) (by rw[List.all_cons,hk,(itoa_plain n h0).1];rfl)).up (Nat.le_refl _) (by have:=itoa_len20 h0 h;rw[List.length_cons];omega) (Nat.le_refl _)
theorem htXs_le{h:Nat}:∀ {l:List ST},(∀s∈l,htX s≤h)→htXs l≤h
 | [],_=>by rw[htXs];omega
 | s::r,hl=>by
   rw[htXs]
   have:=hl s (by simp)
   have:=htXs_le (l:=r) fun x hx=>hl x (by simp[hx])
   omega
theorem Fit.row{l:List ST}{c w h:Nat}(hl:∀ s∈l,nfX s∧wdX s=true∧htX s≤h)(hc:cXs l+1≤c)(hw:wXs l+1≤w):Fit (.mk false [] l) c w (h+1):=
 ⟨nf_l fun s hs=>(hl s hs).1,by rw[wdX_l,wdXs_all,List.all_eq_true];exact fun s hs=>(hl s hs).2.1,by rw[cX_mk];omega,by rw[wX_mk];simp only[List.length_nil];omega,by
  rw[htX,if_neg (by decide)]
  have:=htXs_le fun s hs=>(hl s hs).2.2
  omega⟩
theorem Fit.rowB{l:List ST}{c w h:Nat}(hl:∀ s∈l,Fit s c w h):Fit (.mk false [] l) (l.length*c+1) (l.length*w+1) (h+1):=
 Fit.row (fun s hs=>⟨(hl s hs).nf,(hl s hs).wd,(hl s hs).h⟩) (Nat.succ_le_succ (cXs_le fun s hs=>(hl s hs).c)) (Nat.succ_le_succ (wXs_le fun s hs=>(hl s hs).w))
theorem fit_chX{rows:List ST}{h:Nat}(hf:∀ s∈rows,nfX s∧wdX s=true∧htX s≤h)(hc:cXs rows≤100000)(hh:h≤199:=by omega):chX rows=0:=by
 have hn:=nfXs_all fun s hs=>(hf s hs).1
 have hh:=htXs_le fun s hs=>(hf s hs).2.2
 unfold chX
 rw[nus_ok rows 0 0 hn (by omega) (by omega)]
 dsimp only
 rw[if_pos rfl,if_pos]
 rw[wdXs_all,List.all_eq_true]
 exact fun s hs=>(hf s hs).2.1
end Go.Proofs.YtbbpecfapohlaaaGreatDoor
namespace Go.Proofs.YtbbpecfapohlaaaGreatDoor
open Go.RowKit
attribute [local irreducible] AC Do St
section
variable {P:Program}{C:Cx}{o:Oper}{σ:AS}
end
theorem FnK.low{P:Program}{f:FuncId}{K Kw:World→Prop}{args res:List DV}[hK:KHas Kw K](h:FnK P f K args res):FnK P f Kw args res:=⟨h.body,fun S w vs hw=>h.run S w vs (hK.has w hw)⟩
theorem itoaK{Kw:World→Prop}[KHas Kw Tab](n:Int)(h0: -9223372036854775808≤n)(h1:n≤9223372036854775807):FnK Tryz.prog 88 Kw [.d (.v (.int .i64 n))] [.d (.v (.string (tx (Lib.itoa n))))]:=(itoaF n h0 h1).low
theorem Loc.catL{P:Program}{C:Cx}{o:Oper}{σ:AS}{T T':TypeId}{x y:Operand}{l m:List UInt8}(r:List UInt8)(ho:o.op= .binOp .add T x y T')(hx:ev σ x= .d (.v (.string (tx l))))(hy:ev σ y= .d (.v (.string (tx m))))(hr:l++m=r)(hl:l.length+m.length≤9223372036854775807):Loc P C o σ (.d (.v (.string (tx r)))):=by
 have:=Loc.strAdd (P:=P) (C:=C) ho hx hy (by rw[tx_size,tx_size];exact hl)
 rwa[tx_app,hr]at this
end Go.Proofs.YtbbpecfapohlaaaGreatDoor
