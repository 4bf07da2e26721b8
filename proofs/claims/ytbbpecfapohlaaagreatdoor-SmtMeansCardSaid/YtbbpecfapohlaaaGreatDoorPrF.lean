import Derived.Test.YtbbpecfapohlaaaGreatDoorPrD
import Derived.Test.YtbbpecfapohlaaaGreatDoorOx
namespace Go.Proofs.YtbbpecfapohlaaaGreatDoor
open Go.RowKit
attribute [local irreducible] AC Do St
section
variable {P:Program}{C:Cx}{o:Oper}{σ:AS}
theorem Loc.chkV{x:Operand}{b p:Nat}(ho:o.op= .nilCheck x)(hx:ev σ x= .d (.v (ptv b p))):Loc P C o σ (.d (.v (ptv b p))):=
 Loc.one (by rw[ho];simp[Op.operands]) hx fun S w β O a h1=>⟨ptv b p,by unfold execOp;rw[ho];simp[RA.val h1],.mk rfl⟩
end
theorem wr{p q:Prop}(k:q)(hs:Wk q→p:=by
  intro k
  try (first | intro K ms hms hK | intro K hK)
  repeat (first
   | refine Chain.no rfl rfl ?_
   | refine Chain.noD rfl rfl ?_
   | ((first | apply Chain.go | apply Chain.goD);exact rfl;exact rfl;first
     | exact Loc.move (v:= .d _) rfl rfl
     | exact Loc.assign (v:= .d _) rfl rfl
     | exact Loc.chkV rfl rfl
     | exact Loc.chkP rfl rfl rfl
     | exact Loc.fieldV rfl rfl
     | exact Loc.lenV rfl rfl
     | exact Loc.loadB1 (id:=164) rfl rfl rfl rfl
     | exact Loc.loadB1 (id:=119) rfl rfl rfl rfl
     | exact Loc.loadB1 (id:=181) rfl rfl rfl rfl
     | exact Loc.loadB1 (id:=200) rfl rfl rfl rfl
     | exact Loc.loadB1 (id:=12) rfl rfl rfl rfl
     | exact Loc.loadP1 rfl rfl rfl rfl
     | exact Loc.loadQ1 rfl rfl rfl
     | exact Loc.fieldP rfl rfl rfl
     | exact Loc.fieldQ rfl rfl
     | exact Loc.pickT (v:= .d _) rfl rfl rfl
     | exact Loc.pickF (v:= .d _) rfl rfl rfl
     | exact Loc.loadPn rfl rfl rfl rfl (by kernel_rfl)
     | exact Loc.loadQw rfl rfl rfl
     | exact Loc.loadQn rfl rfl rfl rfl
     | exact Loc.idxM rfl rfl rfl rfl (by assumption) rfl
     | exact Loc.lenM rfl rfl
     | exact Loc.lenN rfl rfl
     | exact Loc.lenR rfl rfl rfl
     | exact Loc.len rfl rfl
     | exact Loc.lssT rfl rfl rfl (by omega)
     | exact Loc.lssF rfl rfl rfl (by omega)
     | exact Loc.eqlT rfl rfl rfl (by omega)
     | exact Loc.eqlF rfl rfl rfl (by omega)
     | exact Loc.neqT rfl rfl rfl (by omega)
     | exact Loc.neqF rfl rfl rfl (by omega)
     | exact Loc.gtrT rfl rfl rfl (by omega)
     | exact Loc.gtrF rfl rfl rfl (by omega)
     | exact Loc.geqT rfl rfl rfl (by omega)
     | exact Loc.geqF rfl rfl rfl (by omega)
     | exact Loc.leqT rfl rfl rfl (by omega)
     | exact Loc.leqF rfl rfl rfl (by omega)
     | exact Loc.add rfl rfl rfl (IntWalk.i64_in _ (by omega))
     | exact Loc.sub rfl rfl rfl (IntWalk.i64_in _ (by omega))
     | exact Loc.notT rfl rfl
     | exact Loc.notF rfl rfl
     | exact Loc.fieldE rfl rfl rfl
     | exact Loc.loadE1 rfl rfl rfl (by assumption) rfl
     | exact Loc.idxR rfl rfl rfl rfl rfl (by omega) rfl
     | exact Loc.move (v:= .g _) rfl rfl
     | exact Loc.move (v:= .p _ _) rfl rfl
     | exact Loc.move (v:= .r _ _) rfl rfl
     | exact Loc.move (v:= .t _) rfl rfl
     | exact Loc.assign (v:= .g _) rfl rfl
     | exact Loc.assign (v:= .r _ _) rfl rfl
     | exact Loc.assign (v:= .p _ _) rfl rfl
     | exact Loc.extract (v:= .d _) rfl rfl rfl rfl
     | exact Loc.extract (v:= .g _) rfl rfl rfl rfl
     | exact Loc.pickT (v:= .g _) rfl rfl rfl
     | exact Loc.pickF (v:= .g _) rfl rfl rfl
     | exact Loc.move (v:= .un) rfl rfl
     | exact Loc.build rfl rfl rfl rfl)
   | refine Chain.nil0 (hK _ ?_)
   | ((first | apply Chain.st | apply Chain.stD);exact rfl;exact rfl;(first
     | exact Do.storeB (id:=164) rfl rfl rfl rfl rfl rfl rfl rfl
     | exact Do.storeB (id:=119) rfl rfl rfl rfl rfl rfl rfl rfl
     | exact Do.storeB (id:=181) rfl rfl rfl rfl rfl rfl rfl rfl
     | exact Do.storeB (id:=200) rfl rfl rfl rfl rfl rfl rfl rfl
     | exact Do.storeB (id:=12) rfl rfl rfl rfl rfl rfl rfl rfl
     | exact Do.storeP rfl rfl rfl rfl .g rfl rfl rfl
     | exact Do.storeP rfl rfl rfl rfl .d rfl rfl rfl
     | exact Do.storeP rfl rfl rfl rfl (.r rfl) rfl rfl rfl);exact rfl;exact rfl)
   | ((first | apply Chain.ef | apply Chain.efD);exact rfl;exact rfl;(first
     | exact Do.alloc rfl rfl rfl
     | exact Do.box rfl rfl rfl .g rfl
     | exact Do.box rfl rfl rfl .d rfl
     | exact Do.lit0 rfl rfl
     | exact Do.append1 rfl rfl rfl rfl rfl rfl (by first | omega | (simp;omega))
     | exact Do.appendN1 rfl rfl rfl rfl rfl rfl);exact rfl;exact rfl)
   | refine Chain.nilD (by rw[hms];kernel_rfl) (hK _ ?_)
   | refine Chain.noN rfl rfl ?_
   | refine AC.seq ?_
   | (refine AC.reg (by decide+kernel) ?_;intro K hK)
   | (refine AC.regG (by decide+kernel) ?_;intro K hK)
   | (refine AC.drw (by kernel_rfl) (by decide+kernel) ?_;intro K ms hms hK)
   | (refine AC.drwG (by kernel_rfl) (by decide+kernel) ?_;intro K ms hms hK)
   | refine AC.condT rfl ?_
   | refine AC.condF rfl ?_
   | refine AC.block ?_
   | refine AC.exit ?_
   | refine AC.ret ?_
   | refine AC.skip ?_)
  first
   | exact k.out
   | (revert K;exact k.out)
   | (revert K ms;exact k.out)):p:=hs ⟨k⟩
def rdR(b:Nat)(src:List UInt8)(i:Nat)(n e p:Int):List (Value×Rel):=[(ptv b 0,boxR b 154 [.v (.string (tx src)),.v (.int .i64 (i:Int)),.v (.int .i64 n),.v (.int .i64 e),.v (.int .i64 p)])]
def rdO(b:Nat)(src:List UInt8)(i:Nat)(n e p:Int):AO:=boxO b 154 [.v (.string (tx src)),.v (.int .i64 (i:Int)),.v (.int .i64 n),.v (.int .i64 e),.v (.int .i64 p)]
def rdQ(b:Nat)(src:List UInt8)(i:Nat)(n e p:Int)(r:List DV):List (Value×Rel)→List DV→Prop:=fun post res=>post=rdR b src i n e p∧res=r
theorem rd_ret{P:Program}{σ:AS}{rs:List ResultVar}{nt b:Nat}{src:List UInt8}{i:Nat}{n e p:Int}{r:List DV}(h0:get? σ.objs (nt+100+0)=some (rdO b src i n e p))(hr:ressX P σ rs r):∃ post res,rdQ b src i n e p r post res∧post.length=1∧ressX P σ rs res∧∀ j (h:j<post.length),get? σ.objs (nt+100+j)=some (.own post[j].1 post[j].2):=
 ⟨_,_,⟨rfl,rfl⟩,rfl,hr,fun j h=>by
  match j,h with
  | 0,_=>exact h0
  | j+1,h=>exact absurd h (by simp[rdR])⟩
def blk8(c:UInt8):Bool:=decide (c.toNat=32)||(decide (c.toNat=9)||(decide (c.toNat=10)||decide (c.toNat=13)))
def skX:Bool→List UInt8→List UInt8
 | _,[]=>[]
 | false,c::r=>if blk8 c=true then skX false r else if c.toNat=59 then skX true r else c::r
 | true,c::r=>if c.toNat=10 then skX false r else skX true r
theorem skX_blk{c:UInt8}{r:List UInt8}(h:c.toNat=32∨c.toNat=9∨c.toNat=10∨c.toNat=13):skX false (c::r)=skX false r:=by
 rw[skX]
 refine if_pos ?_
 unfold blk8
 rcases h with h | h | h | h<;>simp[h]
theorem skX_rem{c:UInt8}{r:List UInt8}(h:c.toNat=59):skX false (c::r)=skX true (c::r):=by
 rw[skX,skX,if_neg (by unfold blk8;simp[h]),if_pos h,if_neg (by omega)]
theorem skX_in{c:UInt8}{r:List UInt8}(h:c.toNat≠10):skX true (c::r)=skX true r:=by
 rw[skX,if_neg h]
theorem skX_nl{c:UInt8}{r:List UInt8}(h:c.toNat=10):skX true (c::r)=skX false (c::r):=by
 rw[skX_blk (.inr (.inr (.inl h))),skX,if_pos h]
theorem skX_stop{c:UInt8}{r:List UInt8}(h1:c.toNat≠32)(h2:c.toNat≠9)(h3:c.toNat≠10)(h4:c.toNat≠13)(h5:c.toNat≠59):skX false (c::r)=c::r:=by
 rw[skX,if_neg (by unfold blk8;simp[h1,h2,h3,h4]),if_neg h5]
theorem skX_len:∀ (b:Bool) (s:List UInt8),(skX b s).length≤s.length
 | b,[]=>by cases b<;>simp[skX]
 | false,c::r=>by
   rw[skX]
   have h1:=skX_len false r
   have h2:=skX_len true r
   split
   ·simp;omega
   ·split
    ·simp;omega
    ·simp
 | true,c::r=>by
   rw[skX]
   have h1:=skX_len false r
   have h2:=skX_len true r
   split
   ·simp;omega
   ·simp;omega
set_option maxRecDepth 100000 in
set_option maxHeartbeats 4000000 in
theorem rdFail(b:Nat)(src:List UInt8)(i:Nat)(n e p a k:Int):FnO Tryz.prog 148 (fun _=>True) (rdR b src i n e p) [.d (.v (ptv b 0)),.d (.v (.int .i64 a)),.d (.v (.int .i64 k))] (rdQ b src i n (if e=0 then k else e) (if e=0 then a else p) []):=by
 refine FnO.of Tryz.func148 rfl (by kernel_rfl) Tryz.ntmps148 Tryz.results148 rfl rfl fun w0 S0 vs hS hv hKW=>⟨_,fun t v h=> .inl h,?_⟩
 by_cases h0:e=0
 ·rw[if_pos h0,if_pos h0]
  refine wr ?_
  exact rd_ret rfl trivial
 ·rw[if_neg h0,if_neg h0]
  refine wr ?_
  exact rd_ret rfl trivial
theorem drop_at{src:List UInt8}{j:Nat}(h:j<src.length):∃ c,src[j]?=some c∧src.drop j=c::src.drop (j+1):=⟨src[j],List.getElem?_eq_getElem h,List.drop_eq_getElem_cons h⟩
set_option maxRecDepth 100000 in
set_option maxHeartbeats 8000000 in
theorem rdSkip(b:Nat)(src:List UInt8)(i:Nat)(hi:i≤src.length)(hs:src.length≤1000000)(n e p:Int):FnO Tryz.prog 147 (fun _=>True) (rdR b src i n e p) [.d (.v (ptv b 0))] (rdQ b src (src.length-(skX false (src.drop i)).length) n e p []):=by
 obtain⟨R,hR⟩:∃ R,skX false (src.drop i)=R:=⟨_,rfl⟩
 rw[hR]
 refine FnO.of Tryz.func147 rfl (by kernel_rfl) Tryz.ntmps147 Tryz.results147 rfl rfl fun w0 S0 vs hS hv hKW=>⟨_,fun t v h=> .inl h,?_⟩
 refine wr ?_
 refine AC.loop (X:=Nat) (fun j=>⟨[(0,.d (.v (ptv b 0)))],[(164,rdO b src j n e p)]⟩) (fun j=>j≤src.length∧skX false (src.drop j)=R) (fun j=>src.length-j) i ⟨hi,hR⟩ ⟨rfl,trivial⟩ ⟨rfl,trivial⟩ ?_
 intro j ⟨hj,hgo⟩
 dsimp only at hj hgo ⊢
 refine wr ?_
 ((try (first | intro K ms hms hK | intro K hK));(first | apply Chain.go | apply Chain.goD);exact rfl;exact rfl;exact Loc.strLen rfl rfl (by kernel_rfl))
 rw[tx_size]
 refine s1 (fun h1=>?_) (fun h1=>?_)
 ·obtain⟨c,hc,hd⟩:=drop_at (src:=src) (j:=j) (by omega)
  rw[hd]at hgo
  have hcb:=UInt8.toNat_lt c
  by_cases k1:c.toNat=32
  ·rw[skX_blk (.inl k1)]at hgo
   refine wr ?_
   ((try (first | intro K ms hms hK | intro K hK));(first | apply Chain.go | apply Chain.goD);exact rfl;exact rfl;exact Loc.strAt (c:=c) j rfl rfl rfl rfl hc (by kernel_rfl))
   refine wr ?_
   exact⟨j+1,⟨by omega,hgo⟩,by omega,⟨rfl,trivial⟩,⟨rfl,trivial⟩⟩
  by_cases k2:c.toNat=9
  ·rw[skX_blk (.inr (.inl k2))]at hgo
   refine wr ?_
   ((try (first | intro K ms hms hK | intro K hK));(first | apply Chain.go | apply Chain.goD);exact rfl;exact rfl;exact Loc.strAt (c:=c) j rfl rfl rfl rfl hc (by kernel_rfl))
   refine wr ?_
   exact⟨j+1,⟨by omega,hgo⟩,by omega,⟨rfl,trivial⟩,⟨rfl,trivial⟩⟩
  by_cases k3:c.toNat=10
  ·rw[skX_blk (.inr (.inr (.inl k3)))]at hgo
   refine wr ?_
   ((try (first | intro K ms hms hK | intro K hK));(first | apply Chain.go | apply Chain.goD);exact rfl;exact rfl;exact Loc.strAt (c:=c) j rfl rfl rfl rfl hc (by kernel_rfl))
   refine wr ?_
   exact⟨j+1,⟨by omega,hgo⟩,by omega,⟨rfl,trivial⟩,⟨rfl,trivial⟩⟩
  by_cases k4:c.toNat=13
  ·rw[skX_blk (.inr (.inr (.inr k4)))]at hgo
   refine wr ?_
   ((try (first | intro K ms hms hK | intro K hK));(first | apply Chain.go | apply Chain.goD);exact rfl;exact rfl;exact Loc.strAt (c:=c) j rfl rfl rfl rfl hc (by kernel_rfl))
   refine wr ?_
   exact⟨j+1,⟨by omega,hgo⟩,by omega,⟨rfl,trivial⟩,⟨rfl,trivial⟩⟩
  by_cases k5:c.toNat=59
  ·rw[skX_rem k5,←hd]at hgo
   refine wr ?_
   ((try (first | intro K ms hms hK | intro K hK));(first | apply Chain.go | apply Chain.goD);exact rfl;exact rfl;exact Loc.strAt (c:=c) j rfl rfl rfl rfl hc (by kernel_rfl))
   refine wr ?_
   refine AC.loop (X:=Nat) (fun k=>⟨[(0,.d (.v (ptv b 0)))],[(164,rdO b src k n e p)]⟩) (fun k=>j≤k∧k≤src.length∧skX true (src.drop k)=R) (fun k=>src.length-k) j ⟨Nat.le_refl _,by omega,hgo⟩ ⟨rfl,trivial⟩ ⟨rfl,trivial⟩ ?_
   intro k ⟨hk0,hk1,hgk⟩
   dsimp only at hk0 hk1 hgk ⊢
   refine wr ?_
   ((try (first | intro K ms hms hK | intro K hK));(first | apply Chain.go | apply Chain.goD);exact rfl;exact rfl;exact Loc.strLen rfl rfl (by kernel_rfl))
   rw[tx_size]
   refine s1 (fun h2=>?_) (fun h2=>?_)
   ·obtain⟨c2,hc2,hd2⟩:=drop_at (src:=src) (j:=k) (by omega)
    rw[hd2]at hgk
    have hcb2:=UInt8.toNat_lt c2
    by_cases k6:c2.toNat=10
    ·rw[skX_nl k6,←hd2]at hgk
     have hkj:j<k:=by
      rcases Nat.lt_or_ge j k with h | h
      ·exact h
      ·have:k=j:=by omega
       subst this
       rw[hc]at hc2
       cases hc2
       exact absurd k6 k3
     refine wr ?_
     ((try (first | intro K ms hms hK | intro K hK));(first | apply Chain.go | apply Chain.goD);exact rfl;exact rfl;exact Loc.strAt (c:=c2) k rfl rfl rfl rfl hc2 (by kernel_rfl))
     refine wr ?_
     exact⟨k,⟨hk1,hgk⟩,by omega,⟨rfl,trivial⟩,⟨rfl,trivial⟩⟩
    ·rw[skX_in k6]at hgk
     refine wr ?_
     ((try (first | intro K ms hms hK | intro K hK));(first | apply Chain.go | apply Chain.goD);exact rfl;exact rfl;exact Loc.strAt (c:=c2) k rfl rfl rfl rfl hc2 (by kernel_rfl))
     refine wr ?_
     exact⟨k+1,⟨by omega,by omega,hgk⟩,by omega,⟨rfl,trivial⟩,⟨rfl,trivial⟩⟩
   ·have hnil:src.drop k=[]:=List.drop_of_length_le (by omega)
    have hgk2:skX false (src.drop k)=R:=by rw[←hgk,hnil];rfl
    refine wr ?_
    exact⟨k,⟨hk1,hgk2⟩,by omega,⟨rfl,trivial⟩,⟨rfl,trivial⟩⟩
  ·rw[skX_stop k1 k2 k3 k4 k5,←hd]at hgo
   have hpos:src.length-R.length=j:=by rw[←hgo,List.length_drop];omega
   refine wr ?_
   ((try (first | intro K ms hms hK | intro K hK));(first | apply Chain.go | apply Chain.goD);exact rfl;exact rfl;exact Loc.strAt (c:=c) j rfl rfl rfl rfl hc (by kernel_rfl))
   refine wr ?_
   rw[hpos]
   exact rd_ret rfl trivial
 ·have hnil:src.drop j=[]:=List.drop_of_length_le (by omega)
  rw[hnil]at hgo
  have hpos:src.length-R.length=j:=by
   rw[←hgo]
   show src.length-0=j
   omega
  refine wr ?_
  rw[hpos]
  exact rd_ret rfl trivial
end Go.Proofs.YtbbpecfapohlaaaGreatDoor
