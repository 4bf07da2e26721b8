import Derived.Test.YtbbpecfapohlaaaGreatDoorLst
import Derived.Test.YtbbpecfapohlaaaGreatDoorAt
import Derived.Test.YtbbpecfapohlaaaGreatDoorPrH
import Derived.Test.YtbbpecfapohlaaaGreatDoorOpenM
namespace Go.Proofs.YtbbpecfapohlaaaGreatDoor
open Go.RowKit
attribute [local irreducible] AC Do St
def lstT(l:List ST):ST:= .mk false [] l
def hefT(q:Rat):ST:=if q.den=1 then wdA (Lib.decDigits q.num.natAbs)else lstT [wdA [47],wdA (Lib.decDigits q.num.natAbs),wdA (Lib.decDigits q.den)]
def numT(q:Rat):ST:=if q.num<0 then lstT [wdA [45],hefT q]else hefT q
def notW:List UInt8:=[110,111,116]
def litT(b l:Int):ST:=if l<0 then lstT [wdA notW,if szI l-1<b then nmA 112 (szI l-1)else nmA 97 (szI l-1-b)]else if szI l-1<b then nmA 112 (szI l-1)else nmA 97 (szI l-1-b)
noncomputable def trmT (t:Tm):ST:=if t.2=1 then nmA 120 t.1 else lstT [wdA [42],numT t.2,nmA 120 t.1]
noncomputable def sidT (l:List Tm):ST:=match l with
 | [t]=>trmT t
 | l=>lstT (wdA [43]::l.map trmT)
def sgnT(op:Int):List UInt8:=if op=1 then [60,61]else if op=2 then [60]else [61]
def boolW:List UInt8:=[66,111,111,108]
def realW:List UInt8:=[82,101,97,108]
def defW:List UInt8:=[100,101,102,105,110,101,45,102,117,110]
def decW:List UInt8:=[100,101,99,108,97,114,101,45,99,111,110,115,116]
def asW:List UInt8:=[97,115,115,101,114,116]
def orW:List UInt8:=[111,114]
def faW:List UInt8:=[102,97,108,115,101]
def slW:List UInt8:=[115,101,116,45,108,111,103,105,99]
def qfW:List UInt8:=[81,70,95,76,82,65]
def csW:List UInt8:=[99,104,101,99,107,45,115,97,116]
noncomputable def bodT (a:At):ST:=lstT [wdA (sgnT a.op),sidT a.e.t,numT (-a.e.c)]
noncomputable def atmT (i:Nat)(a:At):ST:=lstT [wdA defW,nmA 97 i,lstT [],wdA boolW,bodT a]
def clT(b:Int)(c:List Int):ST:=match c with
 | []=>wdA faW
 | [l]=>litT b l
 | c=>lstT (wdA orW::c.map (litT b))
def reaT(i:Nat):ST:=lstT [wdA decW,nmA 120 i,wdA realW]
def booT(i:Nat):ST:=lstT [wdA decW,nmA 112 i,wdA boolW]
def assT(b:Int)(c:List Int):ST:=lstT [wdA asW,clT b c]
def rl0:List ST:=[lstT [wdA slW,wdA qfW]]
def rl1(n:Nat):List ST:=rl0++(List.range n).map reaT
def rl2(r n:Nat):List ST:=rl1 r++(List.range n).map booT
noncomputable def rl3 (p:SP)(i:Nat):List ST:=rl2 p.r.toNat p.b.toNat++(p.a.take i).mapIdx atmT
noncomputable def rl4 (p:SP)(i:Nat):List ST:=rl3 p p.a.length++(p.c.take i).map (assT p.b)
noncomputable def rowT (p:SP):List ST:=rl4 p p.c.length++[lstT [wdA csW]]
theorem rl1_succ(n:Nat):rl1 (n+1)=rl1 n++[reaT n]:=by unfold rl1;rw[List.range_succ,List.map_append,List.append_assoc];rfl
theorem rl2_succ(r n:Nat):rl2 r (n+1)=rl2 r n++[booT n]:=by unfold rl2;rw[List.range_succ,List.map_append,List.append_assoc];rfl
theorem rl3_succ(p:SP){i:Nat}(h:i<p.a.length):rl3 p (i+1)=rl3 p i++[atmT i p.a[i]]:=by
 unfold rl3
 rw[List.take_succ_eq_append_getElem h,List.mapIdx_concat,List.append_assoc,List.length_take,Nat.min_eq_left (by omega)]
theorem rl4_succ(p:SP){i:Nat}(h:i<p.c.length):rl4 p (i+1)=rl4 p i++[assT p.b p.c[i]]:=by
 unfold rl4
 rw[List.take_succ_eq_append_getElem h,List.map_append,List.append_assoc]
 rfl
def smtL(q:Rat):List UInt8:=if q.num<0 then [40,45,32]++(if q.den=1 then Lib.decDigits q.num.natAbs else [40,47,32]++Lib.decDigits q.num.natAbs++[32]++Lib.decDigits q.den++[41])++[41]else(if q.den=1 then Lib.decDigits q.num.natAbs else [40,47,32]++Lib.decDigits q.num.natAbs++[32]++Lib.decDigits q.den++[41])
theorem smtL_put(q:Rat):smtL q=putX (numT q):=by
 have hh:putX (hefT q)=if q.den=1 then Lib.decDigits q.num.natAbs else [40,47,32]++Lib.decDigits q.num.natAbs++[32]++Lib.decDigits q.den++[41]:=by
  unfold hefT
  split
  ·unfold wdA;rw[putX_t]
  ·unfold lstT wdA
   rw[putX_l]
   simp[putXs,tlX,putX_t]
 unfold smtL numT
 split
 ·unfold lstT
  rw[putX_l]
  have:putXs [wdA [45],hefT q]=45::32::putX (hefT q):=by
   unfold wdA
   simp[putXs,tlX,putX_t]
  rw[this,hh]
  simp
 ·exact hh.symm
theorem dec_plain(n:Nat):(Lib.decDigits n).all plainB=true:=by
 rw[List.all_eq_true]
 intro c hc
 have:=decD_dig n c hc
 unfold DigC at this
 unfold plainB
 simp
 omega
theorem dec_len{k n:Nat}(h:n<2^k):(Lib.decDigits n).length≤k+1:=Nat.le_trans (decD_len n) (by have:=bits_len_le h;omega)
set_option maxRecDepth 100000 in
set_option maxHeartbeats 4000000 in
theorem smtNum{k:Nat}(q:Rat)(h:Bd k q)(hk:k≤1000000):Fn Tryz.prog 233 [.g (enR q)] [.d (.v (.string (tx (smtL q))))]:=by
 have hp:=partsF h (by omega)
 have l1:=dec_len h.1
 have l2:=dec_len h.2
 have hn0:=decD_ne q.den
 unfold sgnL lowL at hp
 rw[textL_dec,textL_dec]at hp
 unfold smtL
 generalize Lib.decDigits q.num.natAbs=A at hp l1 ⊢
 generalize Lib.decDigits q.den=B at hp l2 hn0 ⊢
 by_cases h1:q.den=1
 ·rw[if_pos h1]at hp ⊢
  by_cases h2:q.num<0
  ·rw[if_pos h2]at hp ⊢
   refine Fn.of Tryz.func233 rfl (by kernel_rfl) Tryz.ntmps233 Tryz.results233 rfl fun w0 S0=>?_
   refine wa ?_
   ((try (first | intro K ms hms hK | intro K hK));(first | apply Chain.go | apply Chain.goD);exact rfl;exact rfl;exact Loc.catL (l:=[40,45,32]) ([40,45,32]++A) rfl rfl rfl rfl (by simp;omega))
   ((try (first | intro K ms hms hK | intro K hK));(first | apply Chain.go | apply Chain.goD);exact rfl;exact rfl;exact Loc.catL (m:=[41]) ([40,45,32]++A++[41]) rfl rfl rfl rfl (by simp;omega))
   refine wa ?_
   exact⟨.d rfl (.inl rfl),trivial⟩
  ·rw[if_neg h2]at hp ⊢
   refine Fn.of Tryz.func233 rfl (by kernel_rfl) Tryz.ntmps233 Tryz.results233 rfl fun w0 S0=>?_
   refine wa ?_
   exact⟨.d rfl (.inl rfl),trivial⟩
 ·rw[if_neg h1]at hp ⊢
  by_cases h2:q.num<0
  ·rw[if_pos h2]at hp ⊢
   refine Fn.of Tryz.func233 rfl (by kernel_rfl) Tryz.ntmps233 Tryz.results233 rfl fun w0 S0=>?_
   refine wa ?_
   ((try (first | intro K ms hms hK | intro K hK));(first | apply Chain.go | apply Chain.goD);exact rfl;exact rfl;exact Loc.catL (l:=[40,47,32]) ([40,47,32]++A) rfl rfl rfl rfl (by simp;omega))
   ((try (first | intro K ms hms hK | intro K hK));(first | apply Chain.go | apply Chain.goD);exact rfl;exact rfl;exact Loc.catL (m:=[32]) ([40,47,32]++A++[32]) rfl rfl rfl rfl (by simp;omega))
   refine wa ?_
   ((try (first | intro K ms hms hK | intro K hK));(first | apply Chain.go | apply Chain.goD);exact rfl;exact rfl;exact Loc.catL (m:=B) ([40,47,32]++A++[32]++B) rfl rfl rfl rfl (by simp;omega))
   ((try (first | intro K ms hms hK | intro K hK));(first | apply Chain.go | apply Chain.goD);exact rfl;exact rfl;exact Loc.catL (m:=[41]) ([40,47,32]++A++[32]++B++[41]) rfl rfl rfl rfl (by simp;omega))
   refine wa ?_
   ((try (first | intro K ms hms hK | intro K hK));(first | apply Chain.go | apply Chain.goD);exact rfl;exact rfl;exact Loc.catL (l:=[40,45,32]) ([40,45,32]++([40,47,32]++A++[32]++B++[41])) rfl rfl rfl rfl (by simp;omega))
   ((try (first | intro K ms hms hK | intro K hK));(first | apply Chain.go | apply Chain.goD);exact rfl;exact rfl;exact Loc.catL (m:=[41]) ([40,45,32]++([40,47,32]++A++[32]++B++[41])++[41]) rfl rfl rfl rfl (by simp;omega))
   refine wa ?_
   exact⟨.d rfl (.inl rfl),trivial⟩
  ·rw[if_neg h2]at hp ⊢
   refine Fn.of Tryz.func233 rfl (by kernel_rfl) Tryz.ntmps233 Tryz.results233 rfl fun w0 S0=>?_
   refine wa ?_
   ((try (first | intro K ms hms hK | intro K hK));(first | apply Chain.go | apply Chain.goD);exact rfl;exact rfl;exact Loc.catL (l:=[40,47,32]) ([40,47,32]++A) rfl rfl rfl rfl (by simp;omega))
   ((try (first | intro K ms hms hK | intro K hK));(first | apply Chain.go | apply Chain.goD);exact rfl;exact rfl;exact Loc.catL (m:=[32]) ([40,47,32]++A++[32]) rfl rfl rfl rfl (by simp;omega))
   refine wa ?_
   ((try (first | intro K ms hms hK | intro K hK));(first | apply Chain.go | apply Chain.goD);exact rfl;exact rfl;exact Loc.catL (m:=B) ([40,47,32]++A++[32]++B) rfl rfl rfl rfl (by simp;omega))
   ((try (first | intro K ms hms hK | intro K hK));(first | apply Chain.go | apply Chain.goD);exact rfl;exact rfl;exact Loc.catL (m:=[41]) ([40,47,32]++A++[32]++B++[41]) rfl rfl rfl rfl (by simp;omega))
   refine wa ?_
   exact⟨.d rfl (.inl rfl),trivial⟩
theorem par_one{t:ST}(h1:nfX t)(h2:wdX t=true)(h3:(nuX t 1 0).2=true)(h4:(putX t).length≤1000000):parX (putX t)=[.d (.l [enX t]),.d (.v (.int .i64 0)),.d (.v (.int .i64 0))]:=by
 have hp:=parse_put (szX t+1) t (Nat.lt_succ_self _) h1 h2 (putX t).length 0 0 [] trivial (by simp) (by simp) (by simpa using h3)
 rw[List.append_nil]at hp
 have hl:0<(putX t).length:=List.length_pos_iff.2 (putX_ne t h2)
 have e:∀ n,parseX (putX t).length 0 [] n= .ok [] [] n:=fun n=>by
  obtain⟨f,hf⟩:∃ f,(putX t).length=f+1:=⟨(putX t).length-1,by omega⟩
  rw[hf,parseX,show skX false []=[]by rw[skX]]
  dsimp only
  rw[if_neg (by omega)]
 rw[e]at hp
 unfold parX
 rw[if_neg (by omega),hp]
 rfl
theorem Fit.lst{l:List ST}{c w h:Nat}(hl:∀ s∈l,nfX s∧wdX s=true∧htX s≤h)(hc:cXs l+1≤c)(hw:wXs l+1≤w):Fit (lstT l) c w (h+1):=Fit.row hl hc hw
theorem Fit.three{s:ST}{c w h:Nat}(f:Fit s c w h){h':Nat}(hh:h≤h'):nfX s∧wdX s=true∧htX s≤h':=⟨f.nf,f.wd,Nat.le_trans f.h hh⟩
theorem hefT_fit{k:Nat}{q:Rat}(h:Bd k q):Fit (hefT q) 4 (2*k+9) 1:=by
 have l1:=dec_len h.1
 have l2:=dec_len h.2
 have f1:=Fit.word (decD_ne q.num.natAbs) (dec_plain _)
 have f2:=Fit.word (decD_ne q.den) (dec_plain _)
 have f3:Fit (wdA [47]) 1 2 0:=Fit.word (by simp) (by decide)
 unfold hefT
 split
 ·exact f1.up (by omega) (by omega) (by omega)
 ·refine Fit.lst (h:=0) (fun x hx=>?_) ?_ ?_
  ·simp only[List.mem_cons,List.not_mem_nil,or_false]at hx
   rcases hx with rfl | rfl | rfl
   ·exact f3.three (by omega)
   ·exact f1.three (by omega)
   ·exact f2.three (by omega)
  ·rw[cXs_cons,cXs_cons,cXs_cons,cXs_nil]
   have:=f1.c
   have:=f2.c
   have:=f3.c
   omega
  ·rw[wXs_cons,wXs_cons,wXs_cons,wXs_nil]
   have:=f1.w
   have:=f2.w
   have:=f3.w
   omega
theorem numT_fit{k:Nat}{q:Rat}(h:Bd k q):Fit (numT q) 6 (2*k+12) 2:=by
 have f1:=hefT_fit h
 have f3:Fit (wdA [45]) 1 2 0:=Fit.word (by simp) (by decide)
 unfold numT
 split
 ·refine Fit.lst (h:=1) (fun x hx=>?_) ?_ ?_
  ·simp only[List.mem_cons,List.not_mem_nil,or_false]at hx
   rcases hx with rfl | rfl
   ·exact f3.three (by omega)
   ·exact f1.three (by omega)
  ·rw[cXs_cons,cXs_cons,cXs_nil]
   have:=f1.c
   have:=f3.c
   omega
  ·rw[wXs_cons,wXs_cons,wXs_nil]
   have:=f1.w
   have:=f3.w
   omega
 ·exact f1.up (by omega) (by omega) (by omega)
theorem smtL_len{k:Nat}{q:Rat}(h:Bd k q):(smtL q).length≤2*k+12:=by
 have l1:=dec_len h.1
 have l2:=dec_len h.2
 unfold smtL
 split<;>split<;>simp<;>omega
section
variable {Kw:World→Prop}[KSt Kw][KHas Kw Tab]
set_option maxRecDepth 100000 in
set_option maxHeartbeats 4000000 in
theorem smtNumber{k:Nat}(q:Rat)(h:Bd k q)(hk:k≤100000):Fn Tryz.prog 182 [.g (enR q)] [.g (enX (numT q))]:=by
 have hs:=smtNum q h (by omega)
 have hl:=smtL_len h
 have hp:=sexpParse (smtL q)
 rw[smtL_put]at hs hl hp
 have hf:=numT_fit h
 have hnu:=nu_ok (numT q) 1 0 hf.nf (by have:=hf.c;omega) (by have:=hf.h;omega)
 rw[par_one hf.nf hf.wd (by rw[hnu]) (by omega)]at hp
 clear hf hnu
 generalize numT q=t at hs hp ⊢
 have h0:[enX t][0]?=some (enX t):=rfl
 refine Fn.of Tryz.func182 rfl (by kernel_rfl) Tryz.ntmps182 Tryz.results182 rfl fun w0 S0=>?_
 refine wa ?_
 ((try (first | intro K ms hms hK | intro K hK));(first | apply Chain.go | apply Chain.goD);exact rfl;exact rfl;exact Loc.idx (i:=0) rfl rfl rfl rfl h0 rfl)
 refine wa ?_
 exact⟨.cn rfl rfl inferInstance rfl ⟨.inl rfl,.inl rfl,.inl rfl,trivial⟩,trivial⟩
set_option maxRecDepth 100000 in
set_option maxHeartbeats 4000000 in
theorem smtName(c:UInt8)(n:Int)(h0:0≤n)(h1:n≤9223372036854775807):FnK Tryz.prog 179 Kw [.d (.v (.string (tx [c]))),.d (.v (.int .i64 n))] [.g (enX (nmA c n))]:=by
 have hi:=itoaK (Kw:=Kw) n (by omega) h1
 have hl:=Lib.itoa_length_le n (by omega) h1
 have hw:=sexpWord (c::Lib.itoa n)
 unfold nmA wdA
 rw[enX_mk]at hw ⊢
 refine FnK.of Tryz.func179 rfl (by kernel_rfl) Tryz.ntmps179 Tryz.results179 rfl fun w0 S0 hK0=>?_
 refine wa ?_
 ((try (first | intro K ms hms hK | intro K hK));(first | apply Chain.go | apply Chain.goD);exact rfl;exact rfl;exact Loc.catL (l:=[c]) (c::Lib.itoa n) rfl rfl rfl rfl (by simp;omega))
 refine wa ?_
 exact⟨.cn rfl rfl inferInstance rfl ⟨.inl rfl,.inl rfl,.inl rfl,trivial⟩,trivial⟩
set_option maxRecDepth 100000 in
set_option maxHeartbeats 4000000 in
theorem smtLit(p:SP)(l:Int)(hb:0≤p.b)(hb1:p.b≤1000)(h:okLi l):FnK Tryz.prog 184 Kw [.g (enSP p),.d (.v (.int .i64 l))] [.g (enX (litT p.b l))]:=by
 have m1:=max_sz h
 have hz:=szI_ok h
 have w1:IntKind.i64.wrap (0-l)= -l:=by rw[Int.zero_sub];exact IntWalk.i64_in _ (by have:=h.2;omega)
 have hw:=sexpWord notW
 have hrow:=fun t:ST=>sexpRow [wdA notW,t] (by simp)
 unfold litT
 generalize szI l=z at m1 hz ⊢
 have n1:=smtName (Kw:=Kw) 112 (z-1) (by omega) (by omega)
 by_cases h1:z-1<p.b
 ·rw[if_pos h1]
  generalize nmA 112 (z-1)=t at n1 ⊢
  have hrow:=hrow t
  by_cases h2:l<0
  ·rw[if_pos h2]
   unfold lstT
   rw[enX_mk]
   refine FnK.of Tryz.func184 rfl (by kernel_rfl) Tryz.ntmps184 Tryz.results184 rfl fun w0 S0 hK0=>?_
   refine wa ?_
   ((try (first | intro K ms hms hK | intro K hK));(first | apply Chain.go | apply Chain.goD);exact rfl;exact rfl;exact Loc.negM rfl rfl w1)
   refine wa ?_
   ((try (first | intro K ms hms hK | intro K hK));(first | apply Chain.go | apply Chain.goD);exact rfl;exact rfl;exact Loc.maxZ rfl rfl rfl m1)
   refine wa ?_
   exact⟨.cn rfl rfl inferInstance rfl ⟨.inl rfl,.inl rfl,.inl rfl,trivial⟩,trivial⟩
  ·rw[if_neg h2]
   refine FnK.of Tryz.func184 rfl (by kernel_rfl) Tryz.ntmps184 Tryz.results184 rfl fun w0 S0 hK0=>?_
   refine wa ?_
   ((try (first | intro K ms hms hK | intro K hK));(first | apply Chain.go | apply Chain.goD);exact rfl;exact rfl;exact Loc.negM rfl rfl w1)
   refine wa ?_
   ((try (first | intro K ms hms hK | intro K hK));(first | apply Chain.go | apply Chain.goD);exact rfl;exact rfl;exact Loc.maxZ rfl rfl rfl m1)
   refine wa ?_
   exact⟨.cn rfl rfl inferInstance rfl ⟨.inl rfl,.inl rfl,.inl rfl,trivial⟩,trivial⟩
 ·rw[if_neg h1]
  have n2:=smtName (Kw:=Kw) 97 (z-1-p.b) (by omega) (by omega)
  generalize nmA 112 (z-1)=t1 at n1
  generalize nmA 97 (z-1-p.b)=t at n2 ⊢
  have hrow:=hrow t
  by_cases h2:l<0
  ·rw[if_pos h2]
   unfold lstT
   rw[enX_mk]
   refine FnK.of Tryz.func184 rfl (by kernel_rfl) Tryz.ntmps184 Tryz.results184 rfl fun w0 S0 hK0=>?_
   refine wn ?_
   ((try (first | intro K ms hms hK | intro K hK));(first | apply Chain.go | apply Chain.goD);exact rfl;exact rfl;exact Loc.negM rfl rfl w1)
   refine wn ?_
   ((try (first | intro K ms hms hK | intro K hK));(first | apply Chain.go | apply Chain.goD);exact rfl;exact rfl;exact Loc.maxZ rfl rfl rfl m1)
   refine wn ?_
   refine c1 n1 ?_
   refine wn ?_
   refine c1 n2 ?_
   refine wa ?_
   exact⟨.cn rfl rfl inferInstance rfl ⟨.inl rfl,.inl rfl,.inl rfl,trivial⟩,trivial⟩
  ·rw[if_neg h2]
   refine FnK.of Tryz.func184 rfl (by kernel_rfl) Tryz.ntmps184 Tryz.results184 rfl fun w0 S0 hK0=>?_
   refine wn ?_
   ((try (first | intro K ms hms hK | intro K hK));(first | apply Chain.go | apply Chain.goD);exact rfl;exact rfl;exact Loc.negM rfl rfl w1)
   refine wn ?_
   ((try (first | intro K ms hms hK | intro K hK));(first | apply Chain.go | apply Chain.goD);exact rfl;exact rfl;exact Loc.maxZ rfl rfl rfl m1)
   refine wn ?_
   refine c1 n1 ?_
   refine wn ?_
   refine c1 n2 ?_
   refine wa ?_
   exact⟨.cn rfl rfl inferInstance rfl ⟨.inl rfl,.inl rfl,.inl rfl,trivial⟩,trivial⟩
set_option maxRecDepth 100000 in
set_option maxHeartbeats 4000000 in
theorem smtSign(op:Int)(h:okOp op):Fn Tryz.prog 180 [.d (.v (.int .i64 op))] [.d (.v (.string (tx (sgnT op))))]:=by
 rcases okOp_cases h with rfl | rfl | rfl
 ·refine Fn.of Tryz.func180 rfl (by kernel_rfl) Tryz.ntmps180 Tryz.results180 rfl fun w0 S0=>?_
  refine wa ?_
  ((try (first | intro K ms hms hK | intro K hK));(first | apply Chain.go | apply Chain.goD);exact rfl;exact rfl;exact Loc.idx (i:=1) rfl rfl rfl rfl rfl rfl)
  refine wa ?_
  exact⟨.d rfl (.inl rfl),trivial⟩
 ·refine Fn.of Tryz.func180 rfl (by kernel_rfl) Tryz.ntmps180 Tryz.results180 rfl fun w0 S0=>?_
  refine wa ?_
  ((try (first | intro K ms hms hK | intro K hK));(first | apply Chain.go | apply Chain.goD);exact rfl;exact rfl;exact Loc.idx (i:=2) rfl rfl rfl rfl rfl rfl)
  refine wa ?_
  exact⟨.d rfl (.inl rfl),trivial⟩
 ·refine Fn.of Tryz.func180 rfl (by kernel_rfl) Tryz.ntmps180 Tryz.results180 rfl fun w0 S0=>?_
  refine wa ?_
  ((try (first | intro K ms hms hK | intro K hK));(first | apply Chain.go | apply Chain.goD);exact rfl;exact rfl;exact Loc.idx (i:=3) rfl rfl rfl rfl rfl rfl)
  refine wa ?_
  exact⟨.d rfl (.inl rfl),trivial⟩
set_option maxRecDepth 100000 in
set_option maxHeartbeats 4000000 in
theorem smtLong{Kv:World→Prop}[KSt Kv][KHas Kv MaxL](q:Rat)(h:Bd 6682 q):FnK Tryz.prog 107 Kv [.g (enR q)] [.d (.v (.bool false))]:=by
 have hp:=printF h (by omega)
 have l1:=dec_len h.1
 have l2:=dec_len h.2
 have hl:(printL q).length≤13400:=by
  rw[printD]
  split<;>split<;>simp<;>omega
 generalize printL q=L at hp hl
 have ht:=trimPF L [45]
 have htl:(Lib.trimPrefix L [45]).length≤L.length:=by
  unfold Lib.trimPrefix
  split
  ·rw[List.length_drop];omega
  ·exact Nat.le_refl _
 generalize Lib.trimPrefix L [45]=M at ht htl
 have hc:=cutF (Kw:=Kv) M [47] (by omega)
 have hcl:=cut_len M [47]
 generalize (Lib.cut M [47]).1=A at hc hcl
 generalize (Lib.cut M [47]).2.1=B at hc hcl
 generalize (Lib.cut M [47]).2.2=D at hc
 obtain⟨m,hm,hm2⟩:∃ m:Int,(if ((B.length:Nat):Int)>((A.length:Nat):Int)then((B.length:Nat):Int)else((A.length:Nat):Int))=m∧m≤20000:=⟨_,rfl,by split<;>omega⟩
 refine FnK.of Tryz.func107 rfl (by kernel_rfl) Tryz.ntmps107 Tryz.results107 rfl fun w0 S0 hK0=>?_
 refine wa ?_
 ((try (first | intro K ms hms hK | intro K hK));(first | apply Chain.go | apply Chain.goD);exact rfl;exact rfl;exact Loc.maxZ rfl rfl rfl hm)
 refine wa ?_
 exact⟨.d rfl (.inl rfl),trivial⟩
end
end Go.Proofs.YtbbpecfapohlaaaGreatDoor
namespace Go.Proofs.YtbbpecfapohlaaaGreatDoor
open Go.RowKit
attribute [local irreducible] AC Do St
section
variable {Kw:World→Prop}[KSt Kw][KHas Kw Tab]
set_option maxRecDepth 100000 in
set_option maxHeartbeats 4000000 in
theorem smtSide{k:Nat}(e:Ex)(hk:k≤100000)(hv:∀ t∈e.t,0≤t.1∧t.1≤9223372036854775807∧Bd k t.2)(hn:e.t.length≤1000):FnK Tryz.prog 181 Kw [.g (enE e)] [.g (enX (sidT e.t))]:=by
 have hw:=sexpWord [43]
 have hone:=ratInt 1 (by omega) (by omega)
 have hwm:=sexpWord [42]
 have hrow:=fun(a b:ST)=>sexpRow [wdA [42],a,b] (by simp)
 have hlt:(e.t.map enT).length=e.t.length:=List.length_map ..
 refine FnK.of Tryz.func181 rfl (by kernel_rfl) Tryz.ntmps181 Tryz.results181 rfl fun w0 S0 hK0=>?_
 refine wn ?_
 refine c1 hw ?_
 refine wn ?_
 ((try (first | intro K ms hms hK | intro K hK));(first | apply Chain.ef | apply Chain.efD);exact rfl;exact rfl;exact Do.litR rfl rfl rfl rfl rfl rfl rfl rfl;exact rfl;exact rfl)
 refine wa ?_
 refine AC.loop (X:=Nat×Nat) (fun x=>⟨[(1,.p 1 0),(2,.p 2 0),(3,.r 8 x.2),(10,.d (.l (e.t.map enT))),(11,.d (.v (.int .i64 (e.t.length:Int)))),(12,.d (.v (.int .i64 (x.1:Int))))],[(1,.box 106 ((enE e).map .d)),(2,.box 98 [.d (.v (.bool false)),.d (.v (.string ⟨#[]⟩)),.d .n]),(8,.row x.2 98 3 ((wdA [43]::(e.t.take x.1).map trmT).map enX))]⟩) (fun x=>x.1≤e.t.length) (fun x=>e.t.length-x.1) (0,0) (Nat.zero_le _) ⟨rfl,rfl,rfl,rfl,rfl,rfl,trivial⟩ ⟨rfl,rfl,rfl,trivial⟩ ?_
 intro ⟨i,n⟩ hi
 dsimp only at hi ⊢
 by_cases h1:i<e.t.length
 ·have hx:=List.getElem?_eq_getElem h1
  obtain⟨v0,v1,hb⟩:=hv _ (List.getElem_mem h1)
  have hs:(wdA [43]::(e.t.take (i+1)).map trmT).map enX=(wdA [43]::(e.t.take i).map trmT).map enX++[enX (trmT e.t[i])]:=by
   rw[List.take_succ_eq_append_getElem h1,List.map_append,←List.cons_append,List.map_append];rfl
  have hml:((wdA [43]::(e.t.take i).map trmT).map enX).length=i+1:=by simp;omega
  generalize (wdA [43]::(e.t.take i).map trmT).map enX=G at hs hml ⊢
  generalize e.t[i]=t at hx v0 v1 hb hs
  obtain⟨v,q⟩:=t
  dsimp only at v0 v1 hb
  have hnm:=smtName (Kw:=Kw) 120 v v0 v1
  have hnu:=smtNumber q hb hk
  have hcm:=ratCmp hb (show Bd 1 ((1:Int):Rat)from⟨by decide,by decide⟩) (by omega)
  have hcz:sgnR (q-((1:Int):Rat))=0↔q=1:=sgnC
  have htr:trmT (v,q)=if q=1 then nmA 120 v else lstT [wdA [42],numT q,nmA 120 v]:=rfl
  generalize trmT (v,q)=Y at hs htr
  generalize sgnR (q-((1:Int):Rat))=sg at hcm hcz
  have hrow:=hrow (numT q) (nmA 120 v)
  generalize numT q=nq at hnu htr hrow
  generalize nmA 120 v=xv at hnm htr hrow
  by_cases h2:sg=0
  ·subst h2
   rw[if_pos (hcz.1 rfl)]at htr
   subst htr
   refine wa ?_
   exact⟨(i+1,n+1),h1,by dsimp only;omega,⟨rfl,rfl,rfl,rfl,rfl,rfl,trivial⟩,⟨rfl,rfl,by dsimp only;rw[hs];rfl,trivial⟩⟩
  ·rw[if_neg fun h=>h2 (hcz.2 h)]at htr
   subst htr
   unfold lstT at hs
   rw[enX_mk]at hs
   refine wa ?_
   exact⟨(i+1,n+1),h1,by dsimp only;omega,⟨rfl,rfl,rfl,rfl,rfl,rfl,trivial⟩,⟨rfl,rfl,by dsimp only;rw[hs];rfl,trivial⟩⟩
 ·rw[List.take_of_length_le (by omega)]
  refine AC.frzVar 3 rfl rfl ?_
  by_cases h2:e.t.length=1
  ·obtain⟨t,ht⟩:∃ t,e.t=[t]:=List.length_eq_one_iff.1 h2
   have e1:enX (sidT e.t)=enX (trmT t):=by rw[ht];rfl
   rw[e1]
   have hg:((wdA [43]::e.t.map trmT).map enX)[1]?=some (enX (trmT t)):=by rw[ht];rfl
   have hl2:((wdA [43]::e.t.map trmT).map enX).length=2:=by rw[ht];rfl
   generalize (wdA [43]::e.t.map trmT).map enX=G at hg hl2
   generalize trmT t=y at hg
   refine wa ?_
   ((try (first | intro K ms hms hK | intro K hK));(first | apply Chain.go | apply Chain.goD);exact rfl;exact rfl;exact Loc.idx (i:=1) rfl rfl rfl rfl hg rfl)
   refine wa ?_
   exact⟨.cn rfl rfl inferInstance rfl ⟨.inl rfl,.inl rfl,.inl rfl,trivial⟩,trivial⟩
  ·have e1:enX (sidT e.t)=[.v (.bool false),.v (.string (tx [])),.l ((wdA [43]::e.t.map trmT).map enX)]:=by
    unfold sidT
    split
    ·rename_i h;exact absurd (by rw[h];rfl) h2
    ·exact enX_mk _ _ _
   rw[e1]
   have hl2:((wdA [43]::e.t.map trmT).map enX).length=e.t.length+1:=by simp
   generalize (wdA [43]::e.t.map trmT).map enX=G at hl2 ⊢
   refine wa ?_
   exact⟨.cn rfl rfl inferInstance rfl ⟨.inl rfl,.inl rfl,.inl rfl,trivial⟩,trivial⟩
end
end Go.Proofs.YtbbpecfapohlaaaGreatDoor
