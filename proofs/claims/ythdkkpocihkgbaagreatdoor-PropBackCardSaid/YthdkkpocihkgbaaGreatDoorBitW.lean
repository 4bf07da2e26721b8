import Derived.Test.YthdkkpocihkgbaaGreatDoorRatW
set_option maxRecDepth 100000
set_option maxHeartbeats 2000000
namespace Go.Proofs.YthdkkpocihkgbaaGreatDoor
open Go.RowKit
section
variable {α:Type}{S:Nat→Prop}{w w':World}{cs:List Value}{x:α}{n:Nat}
theorem Rp.up(R:Rp α)(h:R.rel (Mo S n w) w cs x)(hx:Ext w w'):R.rel (Lt w'.heap.size) w' cs x:=R.keep h fun b hb=>⟨Nat.lt_of_lt_of_le hb.2 hx.size,hx.block b hb.2⟩
theorem Rp.lt(R:Rp α)(h:R.rel (Mo S n w) w cs x):R.rel (Lt w.heap.size) w cs x:=R.keep h fun _ hb=>⟨hb.2,rfl⟩
theorem Rp.ext(R:Rp α)(h:R.rel (Lt w.heap.size) w cs x)(hx:Ext w w'):R.rel (Lt w'.heap.size) w' cs x:=R.keep h fun b hb=>⟨Nat.lt_of_lt_of_le hb hx.size,hx.block b hb⟩
end
def Rp.bl:Rp (List Bool):=Rp.slice Rp.bool
def BitAns(x:Nat)(S:Nat→Prop)(w:World):Ending→World→Prop:=fun e w'=>∃ a c,e= .returned (.slice a (bits x).length c)∧Ext w w'∧Rp.bl.rel (Mo S w.heap.size w') w' [.slice a (bits x).length c] (bits x)
theorem bl_len{S:Nat→Prop}{w:World}{a:Option Addr}{n c:Nat}{l:List Bool}(h:Rp.bl.rel S w [.slice a n c] l):n=l.length∧n≤c∧c≤9223372036854775807:=by
 obtain⟨h1,h2,h3⟩:=slice_len h;exact⟨h1,h2,by unfold maxLen at h3;omega⟩
theorem bits_prefix(l:List Bool):∃ n,n≤l.length∧bits (bval l)=l.take n:=by
 have key:∀ m,m≤l.length→bval (l.take m)=bval l→∃ n,n≤l.length∧bits (bval l)=l.take n:=by
  intro m
  induction m with
  | zero=>intro h1 h2;exact⟨0,h1,bits_take h1 h2 (.inl rfl)⟩
  | succ m ih=>
    intro h1 h2;cases hb:l.getD m false with
    | true=>exact⟨m+1,h1,bits_take h1 h2 (.inr hb)⟩
    | false=>exact ih (by omega) ((bval_take_pred (n:=m+1) (by omega) h1 hb).trans h2)
 exact key l.length (Nat.le_refl _) (by rw[List.take_of_length_le (Nat.le_refl _)])
theorem rel_bits{S:Nat→Prop}{w:World}{a:Option Addr}{c:Nat}{l:List Bool}(h:Rp.bl.rel S w [.slice a l.length c] l):Rp.bl.rel S w [.slice a (bits (bval l)).length c] (bits (bval l)):=by
 obtain⟨m,h1,h2⟩:=bits_prefix l;rw[h2];obtain⟨a',c',e,h3,h4,h5⟩:=h;injection e with e;injection e with e1 e2 e3;subst e1 e3;refine⟨a,c,rfl,by rw[List.length_take];omega,h4,fun hp=>?_⟩;rw[List.length_take]at hp;obtain⟨b,o,ha,hb,hel⟩:=h5 (by omega);refine⟨b,o,ha,hb,fun i hi=>?_⟩;rw[List.length_take]at hi;obtain⟨es,hr,hc⟩:=hel i (by omega);refine⟨es,?_,hc⟩;rw[List.getElem_take];exact hr
theorem cutB_any(l:List Bool)(a:Option Addr)(n c:Nat)(w:World)(S:Nat→Prop)(h:Rp.bl.rel S w [.slice a n c] l):
  Calls Tryz.prog 172 #[.slice a n c] w fun e w'=>e= .returned (.slice a (bits (bval l)).length c)∧w=w':=by
 obtain⟨rfl,h1,h2⟩:=bl_len h;have H:=Lib.hid h;clear h
 go_enter Tryz.func172,Tryz.ntmps172
 go_wp2
 go_loop [3] (fun s=>∃ n:Nat,n≤l.length∧s= .int .i64 n∧Hid (bval (l.take n)=bval l)) (fun s=>(intOf s).toNat)
 case atStart=>exact⟨l.length,Nat.le_refl _,rfl,by simp[Hid]⟩
 case round=>
  obtain⟨n,hn,rfl,HV⟩:=hrel;cases n with
  | zero=>
    have HF:=Lib.hid (bits_take (Nat.zero_le _) HV.out (.inl rfl))
    go_wp2
    go_ret
    refine⟨?_,rfl⟩;rw[HF.out];rfl
  | succ m=>
    obtain⟨b,o,rfl,_,hc,_⟩:=oneB.get H.out m (by omega);unfold encB at hc;cases hb:l[m]with
    | false=>
      have HV2:=Lib.hid ((bval_take_pred (n:=m+1) (by omega) hn (by rw[Nat.add_sub_cancel,getD_in _ _ (by omega)];exact hb)).trans HV.out);rw[hb]at hc;clear hb
      go_wp2
      go_round
      case rel=>exact⟨m,by omega,by go_num,HV2.out⟩
      case measure=>simp[intOf]
    | true=>
      have HF:=Lib.hid (bits_take hn HV.out (.inr (by rw[Nat.add_sub_cancel,getD_in _ _ (by omega)];exact hb)));rw[hb]at hc;clear hb;have hcc:m+1≤c:=by omega
      go_wp2
      go_ret
      refine⟨?_,rfl⟩;rw[HF.out,List.length_take,Nat.min_eq_left hn];rfl
theorem elemB:Elem Tryz.prog 134 4 1 1:=Elem.of (by kernel_rfl) (by kernel_rfl)
theorem elemBZ:ElemZ Tryz.prog 134 4 (.bool false) 1 1:=ElemZ.of (by kernel_rfl) (by kernel_rfl)
theorem wp_pushB{w:World}{ops:Array Oper}{rest:List Oper}{o:Oper}{a:Act}{Q:Exit→Act→World→Prop}(hgd:o.guard=none)(s x:Operand)
  (hop:o.op= .call {callee:= .builtin .append,args:= #[s,x],argTypes:= #[134,134] }) {n0 g:Nat} {v:Value} {cs:Array Value} {l:List Bool} (y:Bool)
  (hx:a.eval x= .slice (some ⟨g,0,none⟩) 1 1) (hs:a.eval s=v) (hown:OwnL Rp.bool no n0 4 w v l) (hg:g=w.heap.size) (hcs:cs= #[.bool y]) (hl:l.length≤2000000000) (hn:n0≤w.heap.size)
  (h:∀ v' w',OwnL Rp.bool no n0 4 w' v' (l++[y])→Below n0 w w'→wpList Tryz.prog ops Q rest (a.put o.dst v') w'):wpList Tryz.prog ops Q (o::rest) a (w.alloc (.cells cs 4)):=by
 subst hcs;exact wp_push hgd s x _ hop elemB (y:=y) hx hs hown hg rfl (by omega) hn fun v' w' h1 _ h3=>h v' w' h1 h3
theorem cutOwn{v:Value}{o:List Bool}{w w':World}{n x:Nat}(hown:OwnL Rp.bool no n 4 w' v o)(hx:Ext w w')(hn:w.heap.size=n)(hv:bval o=x):
  ∃a c,v= .slice a o.length c∧Calls Tryz.prog 172 #[.slice a o.length c] w' (BitAns x no w):=by
 subst hv hn;obtain⟨a,c,rfl,hrel⟩:=hown.slice;refine⟨a,c,rfl,(cutB_any o a _ c w' _ hrel).mono fun e w2 ⟨he,hw⟩=>?_⟩;subst he hw;exact⟨a,c,rfl,hx,rel_bits hrel⟩
theorem addB_any(x y:Nat)(a a':Option Addr)(n n' c c':Nat)(w:World)(h:Rp.bl.rel (Lt w.heap.size) w [.slice a n c] (bits x))(h':Rp.bl.rel (Lt w.heap.size) w [.slice a' n' c'] (bits y))(hl:(bits x).length≤500000000)(hm:(bits y).length≤500000000):
  Calls Tryz.prog 121 #[.slice a n c,.slice a' n' c'] w (BitAns (x+y) no w):=by
 obtain⟨rfl,h1,h2⟩:=bl_len h;obtain⟨rfl,h1',h2'⟩:=bl_len h';have H1:=Lib.hid h;clear h;have H2:=Lib.hid h';clear h';have HVx:=Lib.hid (bits_val x);have HVy:=Lib.hid (bits_val y);generalize bits x=p at*;generalize bits y=q at*
 go_enter Tryz.func121,Tryz.ntmps121
 go_wp2
 go_loopw [5,6,7] (fun so sc si wr=>∃ k:Nat,si= .int .i64 k∧k≤max p.length q.length+1∧∃ (o:List Bool) (cc:Nat),sc= .int .i64 cc∧cc≤1∧(k=max p.length q.length+1→cc=0)∧Hid (o.length=k)∧Hid (bval o+2^k*cc=bval (p.take k)+bval (q.take k))∧
  Hid (OwnL Rp.bool no w.heap.size 4 wr so o)∧Hid (Ext w wr)) (fun _ _ si _=>max p.length q.length+1-(intOf si).toNat)
 case atStart=>exact⟨0,rfl,Nat.zero_le _,[],0,rfl,by omega,fun _=>rfl,rfl,by simp[Hid,bval_nil],OwnL.made _ _ _ _ _ _ _ (Nat.le_refl _) (by simp[maxLen]) (by simp),(Below.refl _ _).al _⟩
 case round=>
  obtain⟨k,rfl,hk,o,cc,rfl,hcc,hkc,HOL,HV,HO,HX⟩:=hrel;obtain⟨oa,oc,rfl,_,_⟩:=HO.out.shape;have hol:o.length≤600000000:=by have:=HOL.out;omega
  have HKC:=Lib.hid hkc;clear hkc;have HSTEP:Hid (∀(z:Bool) (d:Nat),z.toNat+2*d=cc+bitN p k+bitN q k→bval (o++[z])+2^(k+1)*d=bval (p.take (k+1))+bval (q.take (k+1))):=fun z d hz=>addB_step HOL.out HV.out hz;by_cases hp:k<p.length
  ·obtain⟨b1,o1,rfl,_,g1,_⟩:=oneB.get (Rp.ext Rp.bl H1.out HX.out) k hp;unfold encB at g1;have hbp:=bitN_in hp;cases hu:p[k]with
   | false=>
     rw[hu]at g1 hbp;have HP:=Lib.hid hbp;clear hu hbp;by_cases hq:k<q.length
     ·obtain⟨b2,o2,rfl,_,g2,_⟩:=oneB.get (Rp.ext Rp.bl H2.out HX.out) k hq;unfold encB at g2;have hbq:=bitN_in hq;cases hv:q[k]with
      | false=>
        rw[hv]at g2 hbq;have HQ:=Lib.hid hbq;clear hv hbq;have hc01:cc=0∨cc=1:=by omega
        rcases hc01 with rfl | rfl
        ·go_wp2_with (at_builtin;refine wp_pushB rfl _ _ rfl false rfl rfl HO.out rfl rfl (by omega) HX.out.size ?_)
         intro v' w' hown hB;have HO2:=Lib.hid hown;have HX2:=Lib.hid (HX.out.trans hB);clear hown hB
         go_wp2
         go_roundw
         case rel=>exact⟨k+1,by go_num,by omega,_,0,rfl,by omega,by omega,by rw[Hid,List.length_append,HOL.out];rfl,HSTEP.out false 0 (by simp[HP.out,HQ.out]),HO2.out,HX2.out⟩
         case measure=>simp[intOf];omega
        ·go_wp2_with (at_builtin;refine wp_pushB rfl _ _ rfl true rfl rfl HO.out rfl rfl (by omega) HX.out.size ?_)
         intro v' w' hown hB;have HO2:=Lib.hid hown;have HX2:=Lib.hid (HX.out.trans hB);clear hown hB
         go_wp2
         go_roundw
         case rel=>exact⟨k+1,by go_num,by omega,_,0,rfl,by omega,by omega,by rw[Hid,List.length_append,HOL.out];rfl,HSTEP.out true 0 (by simp[HP.out,HQ.out]),HO2.out,HX2.out⟩
         case measure=>simp[intOf];omega
      | true=>
        rw[hv]at g2 hbq;have HQ:=Lib.hid hbq;clear hv hbq;have hc01:cc=0∨cc=1:=by omega
        rcases hc01 with rfl | rfl
        ·go_wp2_with (at_builtin;refine wp_pushB rfl _ _ rfl true rfl rfl HO.out rfl rfl (by omega) HX.out.size ?_)
         intro v' w' hown hB;have HO2:=Lib.hid hown;have HX2:=Lib.hid (HX.out.trans hB);clear hown hB
         go_wp2
         go_roundw
         case rel=>exact⟨k+1,by go_num,by omega,_,0,rfl,by omega,by omega,by rw[Hid,List.length_append,HOL.out];rfl,HSTEP.out true 0 (by simp[HP.out,HQ.out]),HO2.out,HX2.out⟩
         case measure=>simp[intOf];omega
        ·go_wp2_with (at_builtin;refine wp_pushB rfl _ _ rfl false rfl rfl HO.out rfl rfl (by omega) HX.out.size ?_)
         intro v' w' hown hB;have HO2:=Lib.hid hown;have HX2:=Lib.hid (HX.out.trans hB);clear hown hB
         go_wp2
         go_roundw
         case rel=>exact⟨k+1,by go_num,by omega,_,1,rfl,by omega,by omega,by rw[Hid,List.length_append,HOL.out];rfl,HSTEP.out false 1 (by simp[HP.out,HQ.out]),HO2.out,HX2.out⟩
         case measure=>simp[intOf];omega
     ·have HQ:=Lib.hid (bitN_out (b:=q) (i:=k) (by omega));have hc01:cc=0∨cc=1:=by omega
      rcases hc01 with rfl | rfl
      ·go_wp2_with (at_builtin;refine wp_pushB rfl _ _ rfl false rfl rfl HO.out rfl rfl (by omega) HX.out.size ?_)
       intro v' w' hown hB;have HO2:=Lib.hid hown;have HX2:=Lib.hid (HX.out.trans hB);clear hown hB
       go_wp2
       go_roundw
       case rel=>exact⟨k+1,by go_num,by omega,_,0,rfl,by omega,by omega,by rw[Hid,List.length_append,HOL.out];rfl,HSTEP.out false 0 (by simp[HP.out,HQ.out]),HO2.out,HX2.out⟩
       case measure=>simp[intOf];omega
      ·go_wp2_with (at_builtin;refine wp_pushB rfl _ _ rfl true rfl rfl HO.out rfl rfl (by omega) HX.out.size ?_)
       intro v' w' hown hB;have HO2:=Lib.hid hown;have HX2:=Lib.hid (HX.out.trans hB);clear hown hB
       go_wp2
       go_roundw
       case rel=>exact⟨k+1,by go_num,by omega,_,0,rfl,by omega,by omega,by rw[Hid,List.length_append,HOL.out];rfl,HSTEP.out true 0 (by simp[HP.out,HQ.out]),HO2.out,HX2.out⟩
       case measure=>simp[intOf];omega
   | true=>
     rw[hu]at g1 hbp;have HP:=Lib.hid hbp;clear hu hbp;by_cases hq:k<q.length
     ·obtain⟨b2,o2,rfl,_,g2,_⟩:=oneB.get (Rp.ext Rp.bl H2.out HX.out) k hq;unfold encB at g2;have hbq:=bitN_in hq;cases hv:q[k]with
      | false=>
        rw[hv]at g2 hbq;have HQ:=Lib.hid hbq;clear hv hbq;have hc01:cc=0∨cc=1:=by omega
        rcases hc01 with rfl | rfl
        ·go_wp2_with (at_builtin;refine wp_pushB rfl _ _ rfl true rfl rfl HO.out rfl rfl (by omega) HX.out.size ?_)
         intro v' w' hown hB;have HO2:=Lib.hid hown;have HX2:=Lib.hid (HX.out.trans hB);clear hown hB
         go_wp2
         go_roundw
         case rel=>exact⟨k+1,by go_num,by omega,_,0,rfl,by omega,by omega,by rw[Hid,List.length_append,HOL.out];rfl,HSTEP.out true 0 (by simp[HP.out,HQ.out]),HO2.out,HX2.out⟩
         case measure=>simp[intOf];omega
        ·go_wp2_with (at_builtin;refine wp_pushB rfl _ _ rfl false rfl rfl HO.out rfl rfl (by omega) HX.out.size ?_)
         intro v' w' hown hB;have HO2:=Lib.hid hown;have HX2:=Lib.hid (HX.out.trans hB);clear hown hB
         go_wp2
         go_roundw
         case rel=>exact⟨k+1,by go_num,by omega,_,1,rfl,by omega,by omega,by rw[Hid,List.length_append,HOL.out];rfl,HSTEP.out false 1 (by simp[HP.out,HQ.out]),HO2.out,HX2.out⟩
         case measure=>simp[intOf];omega
      | true=>
        rw[hv]at g2 hbq;have HQ:=Lib.hid hbq;clear hv hbq;have hc01:cc=0∨cc=1:=by omega
        rcases hc01 with rfl | rfl
        ·go_wp2_with (at_builtin;refine wp_pushB rfl _ _ rfl false rfl rfl HO.out rfl rfl (by omega) HX.out.size ?_)
         intro v' w' hown hB;have HO2:=Lib.hid hown;have HX2:=Lib.hid (HX.out.trans hB);clear hown hB
         go_wp2
         go_roundw
         case rel=>exact⟨k+1,by go_num,by omega,_,1,rfl,by omega,by omega,by rw[Hid,List.length_append,HOL.out];rfl,HSTEP.out false 1 (by simp[HP.out,HQ.out]),HO2.out,HX2.out⟩
         case measure=>simp[intOf];omega
        ·go_wp2_with (at_builtin;refine wp_pushB rfl _ _ rfl true rfl rfl HO.out rfl rfl (by omega) HX.out.size ?_)
         intro v' w' hown hB;have HO2:=Lib.hid hown;have HX2:=Lib.hid (HX.out.trans hB);clear hown hB
         go_wp2
         go_roundw
         case rel=>exact⟨k+1,by go_num,by omega,_,1,rfl,by omega,by omega,by rw[Hid,List.length_append,HOL.out];rfl,HSTEP.out true 1 (by simp[HP.out,HQ.out]),HO2.out,HX2.out⟩
         case measure=>simp[intOf];omega
     ·have HQ:=Lib.hid (bitN_out (b:=q) (i:=k) (by omega));have hc01:cc=0∨cc=1:=by omega
      rcases hc01 with rfl | rfl
      ·go_wp2_with (at_builtin;refine wp_pushB rfl _ _ rfl true rfl rfl HO.out rfl rfl (by omega) HX.out.size ?_)
       intro v' w' hown hB;have HO2:=Lib.hid hown;have HX2:=Lib.hid (HX.out.trans hB);clear hown hB
       go_wp2
       go_roundw
       case rel=>exact⟨k+1,by go_num,by omega,_,0,rfl,by omega,by omega,by rw[Hid,List.length_append,HOL.out];rfl,HSTEP.out true 0 (by simp[HP.out,HQ.out]),HO2.out,HX2.out⟩
       case measure=>simp[intOf];omega
      ·go_wp2_with (at_builtin;refine wp_pushB rfl _ _ rfl false rfl rfl HO.out rfl rfl (by omega) HX.out.size ?_)
       intro v' w' hown hB;have HO2:=Lib.hid hown;have HX2:=Lib.hid (HX.out.trans hB);clear hown hB
       go_wp2
       go_roundw
       case rel=>exact⟨k+1,by go_num,by omega,_,1,rfl,by omega,by omega,by rw[Hid,List.length_append,HOL.out];rfl,HSTEP.out false 1 (by simp[HP.out,HQ.out]),HO2.out,HX2.out⟩
       case measure=>simp[intOf];omega
  ·have HP:=Lib.hid (bitN_out (b:=p) (i:=k) (by omega));by_cases hq:k<q.length
   ·obtain⟨b2,o2,rfl,_,g2,_⟩:=oneB.get (Rp.ext Rp.bl H2.out HX.out) k hq;unfold encB at g2;have hbq:=bitN_in hq;cases hv:q[k]with
    | false=>
      rw[hv]at g2 hbq;have HQ:=Lib.hid hbq;clear hv hbq;have hc01:cc=0∨cc=1:=by omega
      rcases hc01 with rfl | rfl
      ·go_wp2_with (at_builtin;refine wp_pushB rfl _ _ rfl false rfl rfl HO.out rfl rfl (by omega) HX.out.size ?_)
       intro v' w' hown hB;have HO2:=Lib.hid hown;have HX2:=Lib.hid (HX.out.trans hB);clear hown hB
       go_wp2
       go_roundw
       case rel=>exact⟨k+1,by go_num,by omega,_,0,rfl,by omega,by omega,by rw[Hid,List.length_append,HOL.out];rfl,HSTEP.out false 0 (by simp[HP.out,HQ.out]),HO2.out,HX2.out⟩
       case measure=>simp[intOf];omega
      ·go_wp2_with (at_builtin;refine wp_pushB rfl _ _ rfl true rfl rfl HO.out rfl rfl (by omega) HX.out.size ?_)
       intro v' w' hown hB;have HO2:=Lib.hid hown;have HX2:=Lib.hid (HX.out.trans hB);clear hown hB
       go_wp2
       go_roundw
       case rel=>exact⟨k+1,by go_num,by omega,_,0,rfl,by omega,by omega,by rw[Hid,List.length_append,HOL.out];rfl,HSTEP.out true 0 (by simp[HP.out,HQ.out]),HO2.out,HX2.out⟩
       case measure=>simp[intOf];omega
    | true=>
      rw[hv]at g2 hbq;have HQ:=Lib.hid hbq;clear hv hbq;have hc01:cc=0∨cc=1:=by omega
      rcases hc01 with rfl | rfl
      ·go_wp2_with (at_builtin;refine wp_pushB rfl _ _ rfl true rfl rfl HO.out rfl rfl (by omega) HX.out.size ?_)
       intro v' w' hown hB;have HO2:=Lib.hid hown;have HX2:=Lib.hid (HX.out.trans hB);clear hown hB
       go_wp2
       go_roundw
       case rel=>exact⟨k+1,by go_num,by omega,_,0,rfl,by omega,by omega,by rw[Hid,List.length_append,HOL.out];rfl,HSTEP.out true 0 (by simp[HP.out,HQ.out]),HO2.out,HX2.out⟩
       case measure=>simp[intOf];omega
      ·go_wp2_with (at_builtin;refine wp_pushB rfl _ _ rfl false rfl rfl HO.out rfl rfl (by omega) HX.out.size ?_)
       intro v' w' hown hB;have HO2:=Lib.hid hown;have HX2:=Lib.hid (HX.out.trans hB);clear hown hB
       go_wp2
       go_roundw
       case rel=>exact⟨k+1,by go_num,by omega,_,1,rfl,by omega,by omega,by rw[Hid,List.length_append,HOL.out];rfl,HSTEP.out false 1 (by simp[HP.out,HQ.out]),HO2.out,HX2.out⟩
       case measure=>simp[intOf];omega
   ·have HQ:=Lib.hid (bitN_out (b:=q) (i:=k) (by omega));have hc01:cc=0∨cc=1:=by omega
    rcases hc01 with rfl | rfl
    ·have HE:Hid (bval o=x+y):=by
      show bval o=x+y;have h3:=HV.out;rw[bval_take_all (by omega),bval_take_all (by omega),HVx.out,HVy.out]at h3;simpa using h3
     obtain⟨ca,cc2,e5,hcut⟩:=cutOwn HO.out HX.out rfl HE.out;injection e5 with e5 e6 e7;subst e5 e7;have HC:=Lib.hid hcut;clear hcut e6
     go_wp2_with fail
     refine HC.out.mono ?_;rintro e w2 ⟨ra,rc,rfl,hx,hr⟩;have HX2:=Lib.hid hx;have HR2:=Lib.hid hr;clear hx hr
     go_wp2_with fail
     go_ret
     exact⟨ra,rc,rfl,HX2.out,HR2.out⟩
    ·have hk2:¬ k=max p.length q.length+1:=fun e=>by have:=HKC.out e;omega
     go_wp2_with (at_builtin;refine wp_pushB rfl _ _ rfl true rfl rfl HO.out rfl rfl (by omega) HX.out.size ?_)
     intro v' w' hown hB;have HO2:=Lib.hid hown;have HX2:=Lib.hid (HX.out.trans hB);clear hown hB
     go_wp2
     go_roundw
     case rel=>exact⟨k+1,by go_num,by omega,_,0,rfl,by omega,by omega,by rw[Hid,List.length_append,HOL.out];rfl,HSTEP.out true 0 (by simp[HP.out,HQ.out]),HO2.out,HX2.out⟩
     case measure=>simp[intOf];omega
theorem subB_any(x y:Nat)(a a':Option Addr)(n n' c c':Nat)(w:World)(h:Rp.bl.rel (Lt w.heap.size) w [.slice a n c] (bits x))(h':Rp.bl.rel (Lt w.heap.size) w [.slice a' n' c'] (bits y))(hl:(bits x).length≤500000000)(hxy:y≤x):
  Calls Tryz.prog 176 #[.slice a n c,.slice a' n' c'] w (BitAns (x-y) no w):=by
 obtain⟨rfl,h1,h2⟩:=bl_len h;obtain⟨rfl,h1',h2'⟩:=bl_len h';have H1:=Lib.hid h;clear h;have H2:=Lib.hid h';clear h';have HVx:=Lib.hid (bits_val x);have HVy:=Lib.hid (bits_val y);have hqp:(bits y).length≤(bits x).length:=by rw[bits_len,bits_len];exact digs_len_mono (by decide) hxy
 have HXY:=Lib.hid hxy;clear hxy;generalize bits x=p at*;generalize bits y=q at*
 go_enter Tryz.func176,Tryz.ntmps176
 go_wp2
 go_loopw [5,6,12] (fun so sc si wr=>∃ k:Nat,si= .int .i64 k∧k≤p.length∧∃ (o:List Bool) (cc:Nat),sc= .int .i64 cc∧cc≤1∧Hid (o.length=k)∧Hid (bval o+bval (q.take k)=bval (p.take k)+2^k*cc)∧
  Hid (OwnL Rp.bool no w.heap.size 4 wr so o)∧Hid (Ext w wr)) (fun _ _ si _=>p.length-(intOf si).toNat)
 case atStart=>exact⟨0,rfl,Nat.zero_le _,[],0,rfl,by omega,rfl,by simp[Hid,bval_nil],OwnL.made _ _ _ _ _ _ _ (Nat.le_refl _) (by simp[maxLen]) (by simp),(Below.refl _ _).al _⟩
 case round=>
  obtain⟨k,rfl,hk,o,cc,rfl,hcc,HOL,HV,HO,HX⟩:=hrel;obtain⟨oa,oc,rfl,_,_⟩:=HO.out.shape;have hol:o.length≤600000000:=by have:=HOL.out;omega
  have HSTEP:Hid (∀(z:Bool) (d:Nat),z.toNat+bitN q k+cc=bitN p k+2*d→bval (o++[z])+bval (q.take (k+1))=bval (p.take (k+1))+2^(k+1)*d):=fun z d hz=>subB_step HOL.out HV.out hz;by_cases hp:k<p.length
  ·obtain⟨b1,o1,rfl,_,g1,_⟩:=oneB.get (Rp.ext Rp.bl H1.out HX.out) k hp;unfold encB at g1;have hbp:=bitN_in hp;cases hu:p[k]with
   | false=>
     rw[hu]at g1 hbp;have HP:=Lib.hid hbp;clear hu hbp;by_cases hq:k<q.length
     ·obtain⟨b2,o2,rfl,_,g2,_⟩:=oneB.get (Rp.ext Rp.bl H2.out HX.out) k hq;unfold encB at g2;have hbq:=bitN_in hq;cases hv:q[k]with
      | false=>
        rw[hv]at g2 hbq;have HQ:=Lib.hid hbq;clear hv hbq;have hc01:cc=0∨cc=1:=by omega
        rcases hc01 with rfl | rfl
        ·go_wp2_with (at_builtin;refine wp_pushB rfl _ _ rfl false rfl rfl HO.out rfl rfl (by omega) HX.out.size ?_)
         intro v' w' hown hB;have HO2:=Lib.hid hown;have HX2:=Lib.hid (HX.out.trans hB);clear hown hB
         go_wp2
         go_roundw
         case rel=>exact⟨k+1,by go_num,by omega,_,0,rfl,by omega,by rw[Hid,List.length_append,HOL.out];rfl,HSTEP.out false 0 (by simp[HP.out,HQ.out]),HO2.out,HX2.out⟩
         case measure=>simp[intOf];omega
        ·go_wp2_with (at_builtin;refine wp_pushB rfl _ _ rfl true rfl rfl HO.out rfl rfl (by omega) HX.out.size ?_)
         intro v' w' hown hB;have HO2:=Lib.hid hown;have HX2:=Lib.hid (HX.out.trans hB);clear hown hB
         go_wp2
         go_roundw
         case rel=>exact⟨k+1,by go_num,by omega,_,1,rfl,by omega,by rw[Hid,List.length_append,HOL.out];rfl,HSTEP.out true 1 (by simp[HP.out,HQ.out]),HO2.out,HX2.out⟩
         case measure=>simp[intOf];omega
      | true=>
        rw[hv]at g2 hbq;have HQ:=Lib.hid hbq;clear hv hbq;have hc01:cc=0∨cc=1:=by omega
        rcases hc01 with rfl | rfl
        ·go_wp2_with (at_builtin;refine wp_pushB rfl _ _ rfl true rfl rfl HO.out rfl rfl (by omega) HX.out.size ?_)
         intro v' w' hown hB;have HO2:=Lib.hid hown;have HX2:=Lib.hid (HX.out.trans hB);clear hown hB
         go_wp2
         go_roundw
         case rel=>exact⟨k+1,by go_num,by omega,_,1,rfl,by omega,by rw[Hid,List.length_append,HOL.out];rfl,HSTEP.out true 1 (by simp[HP.out,HQ.out]),HO2.out,HX2.out⟩
         case measure=>simp[intOf];omega
        ·go_wp2_with (at_builtin;refine wp_pushB rfl _ _ rfl false rfl rfl HO.out rfl rfl (by omega) HX.out.size ?_)
         intro v' w' hown hB;have HO2:=Lib.hid hown;have HX2:=Lib.hid (HX.out.trans hB);clear hown hB
         go_wp2
         go_roundw
         case rel=>exact⟨k+1,by go_num,by omega,_,1,rfl,by omega,by rw[Hid,List.length_append,HOL.out];rfl,HSTEP.out false 1 (by simp[HP.out,HQ.out]),HO2.out,HX2.out⟩
         case measure=>simp[intOf];omega
     ·have HQ:=Lib.hid (bitN_out (b:=q) (i:=k) (by omega));have hc01:cc=0∨cc=1:=by omega
      rcases hc01 with rfl | rfl
      ·go_wp2_with (at_builtin;refine wp_pushB rfl _ _ rfl false rfl rfl HO.out rfl rfl (by omega) HX.out.size ?_)
       intro v' w' hown hB;have HO2:=Lib.hid hown;have HX2:=Lib.hid (HX.out.trans hB);clear hown hB
       go_wp2
       go_roundw
       case rel=>exact⟨k+1,by go_num,by omega,_,0,rfl,by omega,by rw[Hid,List.length_append,HOL.out];rfl,HSTEP.out false 0 (by simp[HP.out,HQ.out]),HO2.out,HX2.out⟩
       case measure=>simp[intOf];omega
      ·go_wp2_with (at_builtin;refine wp_pushB rfl _ _ rfl true rfl rfl HO.out rfl rfl (by omega) HX.out.size ?_)
       intro v' w' hown hB;have HO2:=Lib.hid hown;have HX2:=Lib.hid (HX.out.trans hB);clear hown hB
       go_wp2
       go_roundw
       case rel=>exact⟨k+1,by go_num,by omega,_,1,rfl,by omega,by rw[Hid,List.length_append,HOL.out];rfl,HSTEP.out true 1 (by simp[HP.out,HQ.out]),HO2.out,HX2.out⟩
       case measure=>simp[intOf];omega
   | true=>
     rw[hu]at g1 hbp;have HP:=Lib.hid hbp;clear hu hbp;by_cases hq:k<q.length
     ·obtain⟨b2,o2,rfl,_,g2,_⟩:=oneB.get (Rp.ext Rp.bl H2.out HX.out) k hq;unfold encB at g2;have hbq:=bitN_in hq;cases hv:q[k]with
      | false=>
        rw[hv]at g2 hbq;have HQ:=Lib.hid hbq;clear hv hbq;have hc01:cc=0∨cc=1:=by omega
        rcases hc01 with rfl | rfl
        ·go_wp2_with (at_builtin;refine wp_pushB rfl _ _ rfl true rfl rfl HO.out rfl rfl (by omega) HX.out.size ?_)
         intro v' w' hown hB;have HO2:=Lib.hid hown;have HX2:=Lib.hid (HX.out.trans hB);clear hown hB
         go_wp2
         go_roundw
         case rel=>exact⟨k+1,by go_num,by omega,_,0,rfl,by omega,by rw[Hid,List.length_append,HOL.out];rfl,HSTEP.out true 0 (by simp[HP.out,HQ.out]),HO2.out,HX2.out⟩
         case measure=>simp[intOf];omega
        ·go_wp2_with (at_builtin;refine wp_pushB rfl _ _ rfl false rfl rfl HO.out rfl rfl (by omega) HX.out.size ?_)
         intro v' w' hown hB;have HO2:=Lib.hid hown;have HX2:=Lib.hid (HX.out.trans hB);clear hown hB
         go_wp2
         go_roundw
         case rel=>exact⟨k+1,by go_num,by omega,_,0,rfl,by omega,by rw[Hid,List.length_append,HOL.out];rfl,HSTEP.out false 0 (by simp[HP.out,HQ.out]),HO2.out,HX2.out⟩
         case measure=>simp[intOf];omega
      | true=>
        rw[hv]at g2 hbq;have HQ:=Lib.hid hbq;clear hv hbq;have hc01:cc=0∨cc=1:=by omega
        rcases hc01 with rfl | rfl
        ·go_wp2_with (at_builtin;refine wp_pushB rfl _ _ rfl false rfl rfl HO.out rfl rfl (by omega) HX.out.size ?_)
         intro v' w' hown hB;have HO2:=Lib.hid hown;have HX2:=Lib.hid (HX.out.trans hB);clear hown hB
         go_wp2
         go_roundw
         case rel=>exact⟨k+1,by go_num,by omega,_,0,rfl,by omega,by rw[Hid,List.length_append,HOL.out];rfl,HSTEP.out false 0 (by simp[HP.out,HQ.out]),HO2.out,HX2.out⟩
         case measure=>simp[intOf];omega
        ·go_wp2_with (at_builtin;refine wp_pushB rfl _ _ rfl true rfl rfl HO.out rfl rfl (by omega) HX.out.size ?_)
         intro v' w' hown hB;have HO2:=Lib.hid hown;have HX2:=Lib.hid (HX.out.trans hB);clear hown hB
         go_wp2
         go_roundw
         case rel=>exact⟨k+1,by go_num,by omega,_,1,rfl,by omega,by rw[Hid,List.length_append,HOL.out];rfl,HSTEP.out true 1 (by simp[HP.out,HQ.out]),HO2.out,HX2.out⟩
         case measure=>simp[intOf];omega
     ·have HQ:=Lib.hid (bitN_out (b:=q) (i:=k) (by omega));have hc01:cc=0∨cc=1:=by omega
      rcases hc01 with rfl | rfl
      ·go_wp2_with (at_builtin;refine wp_pushB rfl _ _ rfl true rfl rfl HO.out rfl rfl (by omega) HX.out.size ?_)
       intro v' w' hown hB;have HO2:=Lib.hid hown;have HX2:=Lib.hid (HX.out.trans hB);clear hown hB
       go_wp2
       go_roundw
       case rel=>exact⟨k+1,by go_num,by omega,_,0,rfl,by omega,by rw[Hid,List.length_append,HOL.out];rfl,HSTEP.out true 0 (by simp[HP.out,HQ.out]),HO2.out,HX2.out⟩
       case measure=>simp[intOf];omega
      ·go_wp2_with (at_builtin;refine wp_pushB rfl _ _ rfl false rfl rfl HO.out rfl rfl (by omega) HX.out.size ?_)
       intro v' w' hown hB;have HO2:=Lib.hid hown;have HX2:=Lib.hid (HX.out.trans hB);clear hown hB
       go_wp2
       go_roundw
       case rel=>exact⟨k+1,by go_num,by omega,_,0,rfl,by omega,by rw[Hid,List.length_append,HOL.out];rfl,HSTEP.out false 0 (by simp[HP.out,HQ.out]),HO2.out,HX2.out⟩
       case measure=>simp[intOf];omega
  ·have HE:Hid (bval o=x-y):=by
    show bval o=x-y;have h3:=HV.out;have hkp:k=p.length:=by omega
    rw[bval_take_all (by omega),bval_take_all (by omega),HVx.out,HVy.out]at h3;have h4:=bval_lt o;rw[HOL.out]at h4;exact subB_end h3 h4 HXY.out
   obtain⟨ca,cc2,e5,hcut⟩:=cutOwn HO.out HX.out rfl HE.out;injection e5 with e5 e6 e7;subst e5 e7;have HC:=Lib.hid hcut;clear hcut e6
   go_wp2_with fail
   refine HC.out.mono ?_;rintro e w2 ⟨ra,rc,rfl,hx,hr⟩;have HX2:=Lib.hid hx;have HR2:=Lib.hid hr;clear hx hr
   go_wp2_with fail
   go_ret
   exact⟨ra,rc,rfl,HX2.out,HR2.out⟩
theorem wordB_any(u:Nat)(w:World)(hu:u<18446744073709551616):Calls Tryz.prog 122 #[.int .u64 u] w (BitAns u no w):=by
 go_enter Tryz.func122,Tryz.ntmps122
 go_wp2
 go_loopw [0,3] (fun su so wr=>∃ (k r:Nat) (o:List Bool),su= .int .u64 r∧r<18446744073709551616∧k≤64∧Hid (r<2^(64-k))∧Hid (o.length=k)∧Hid (bval o+2^k*r=u)∧Hid (r=0→NrmB o)∧
  Hid (OwnL Rp.bool no w.heap.size 4 wr so o)∧Hid (Ext w wr)) (fun su _ _=>(intOf su).toNat)
 case atStart=>exact⟨0,u,[],rfl,hu,by omega,by simpa[Hid] using hu,rfl,by simp[Hid,bval_nil],by simp[Hid,NrmB],OwnL.made _ _ _ _ _ _ _ (Nat.le_refl _) (by simp[maxLen]) (by simp),(Below.refl _ _).al _⟩
 case round=>
  obtain⟨k,r,o,rfl,hr,hk,HR,HOL,HV,HN,HO,HX⟩:=hrel;obtain⟨oa,oc,rfl,_,_⟩:=HO.out.shape;have hol:o.length≤64:=by have:=HOL.out;omega
  by_cases h0:r=0
  ·have HE:Hid (o=bits u):=by
    show o=bits u;have h3:=HV.out;rw[h0,Nat.mul_zero,Nat.add_zero]at h3;rw[←h3];exact(bits_of (HN.out h0)).symm
   obtain⟨ca,cc2,e5,hrel⟩:=HO.out.slice;injection e5 with e5 e6 e7;subst e5 e7;have HRR:=Lib.hid hrel;subst h0;clear hrel e6
   go_wp2
   go_ret
   refine⟨oa,oc,?_,HX.out,?_⟩
   ·rw[←HE.out];rfl
   ·rw[←HE.out];exact HRR.out
  ·have hk64:k<64:=by
    rcases Nat.lt_or_ge k 64 with h | h
    ·exact h
    ·have h3:=HR.out;rw[show 64-k=0 by omega]at h3;omega
   have hr2:r / 2<18446744073709551616:=by omega
   have HR2:Hid (r / 2<2^(64-(k+1))):=by
    show r / 2<_;have h3:=HR.out;rw[show 64-k=64-(k+1)+1 by omega,Nat.pow_succ]at h3;omega
   have hgt:(0:Int)<(r:Int):=by omega
   rcases Nat.mod_two_eq_zero_or_one r with hm | hm
   ·have hmb:((r:Int) % 2==1)=false:=by rw[beq_eq_false_iff_ne];omega
    have HST:=Lib.hid (ofB_step (x:=false) HV.out HOL.out (by rw[hm];rfl));have HN2:Hid (r / 2=0→NrmB (o++[false])):=fun h=>by omega
    clear hm
    go_wp2_with (at_builtin;refine wp_pushB rfl _ _ rfl false rfl rfl HO.out rfl rfl (by omega) HX.out.size ?_)
    intro v' w' hown hB;have HO2:=Lib.hid hown;have HX2:=Lib.hid (HX.out.trans hB);clear hown hB
    go_wp2
    go_roundw
    case rel=>exact⟨k+1,r / 2,_,by go_num,hr2,by omega,HR2.out,by rw[Hid,List.length_append,HOL.out];rfl,HST.out,HN2.out,HO2.out,HX2.out⟩
    case measure=>simp[intOf];omega
   ·have hmb:((r:Int) % 2==1)=true:=by rw[beq_iff_eq];omega
    have HST:=Lib.hid (ofB_step (x:=true) HV.out HOL.out (by rw[hm];rfl));have HN2:Hid (r / 2=0→NrmB (o++[true])):=fun _=>by simp[NrmB]
    clear hm
    go_wp2_with (at_builtin;refine wp_pushB rfl _ _ rfl true rfl rfl HO.out rfl rfl (by omega) HX.out.size ?_)
    intro v' w' hown hB;have HO2:=Lib.hid hown;have HX2:=Lib.hid (HX.out.trans hB);clear hown hB
    go_wp2
    go_roundw
    case rel=>exact⟨k+1,r / 2,_,by go_num,hr2,by omega,HR2.out,by rw[Hid,List.length_append,HOL.out];rfl,HST.out,HN2.out,HO2.out,HX2.out⟩
    case measure=>simp[intOf];omega
theorem shlB_any(p:List Bool)(s:Nat)(a:Option Addr)(n c:Nat)(w:World)(h:Rp.bl.rel (Lt w.heap.size) w [.slice a n c] p)(hl:p.length≤500000000)(hs:s≤500000000):
  Calls Tryz.prog 177 #[.slice a n c,.int .i64 s] w (BitAns (bval p*2^s) no w):=by
 obtain⟨rfl,h1,h2⟩:=bl_len h;have H1:=Lib.hid h;clear h
 go_enter Tryz.func177,Tryz.ntmps177
 go_wp2_with (at_make;refine wp_makeZ oneB rfl _ _ _ rfl elemBZ false rfl trivial no w.heap.size _ _ _ _ s s rfl rfl rfl rfl (by omega) (by omega) (by omega) (Nat.le_refl _) ?_)
 intro w0 hown0 hx0 hz0;have HX0:=Lib.hid hx0;have HO0:=Lib.hid hown0;have HP0:=Lib.hid (Rp.ext Rp.bl H1.out hx0);clear hown0 hx0
 go_wp2_with (at_builtin;refine wp_append_all rfl _ _ _ rfl elemB (S0:=no) (n0:=w.heap.size) (l:=List.replicate s false) rfl rfl HO0.out (l2:=p) (oneB.slc HP0.out) (by rw[List.length_replicate];omega) HX0.out.size ?_)
 intro v' w1 hown1 _ hB1;have hv:Hid (bval (List.replicate s false++p)=bval p*2^s):=by
  show bval _=_;rw[bval_append,bval_zeros,List.length_replicate,Nat.zero_add,Nat.mul_comm]
 obtain⟨ca,cc,rfl,hcut⟩:=cutOwn hown1 (HX0.out.trans hB1) rfl hv.out;have HC:=Lib.hid hcut;clear hcut hown1 hB1
 go_wp2_with fail
 rw[List.length_append,List.length_replicate]at HC;refine HC.out.mono ?_;rintro e w2 ⟨ra,rc,rfl,hx,hr⟩;have HX2:=Lib.hid hx;have HR2:=Lib.hid hr;clear hx hr
 go_wp2_with fail
 go_ret
 exact⟨ra,rc,rfl,HX2.out,HR2.out⟩
theorem bit_len_lt{x y:Nat}(h:(bits x).length<(bits y).length):cmpN x y= -1:=cmpN_lt (bits_lt_len h)
theorem bit_len_gt{x y:Nat}(h:(bits y).length<(bits x).length):cmpN x y=1:=cmpN_gt (bits_lt_len h)
theorem bit_top{x y i:Nat}(hl:(bits x).length=(bits y).length)(hi:i<(bits x).length)(hi':i<(bits y).length)(he:(bits x).drop (i+1)=(bits y).drop (i+1)):
  ((bits x)[i]=false→(bits y)[i]=true→cmpN x y= -1)∧((bits y)[i]=false→(bits x)[i]=true→cmpN x y=1):=by
 constructor
 ·intro h1 h2;have:=topB_lt hi hi' hl he h1 h2;rw[bits_val,bits_val]at this;exact cmpN_lt this
 ·intro h1 h2;have:=topB_lt hi' hi hl.symm he.symm h1 h2;rw[bits_val,bits_val]at this;exact cmpN_gt this
theorem cmpB_any(x y:Nat)(a a':Option Addr)(n n' c c':Nat)(w:World)(S S':Nat→Prop)(h:Rp.bl.rel S w [.slice a n c] (bits x))(h':Rp.bl.rel S' w [.slice a' n' c'] (bits y)):
  Calls Tryz.prog 175 #[.slice a n c,.slice a' n' c'] w fun e w'=>e= .returned (.int .i64 (cmpN x y))∧∃ q,w'=w.drewN q:=by
 obtain⟨rfl,h1,h2⟩:=bl_len h;obtain⟨rfl,h1',h2'⟩:=bl_len h';have HR:=Lib.hid h;have HR':=Lib.hid h';clear h h';by_cases hlt:(bits x).length<(bits y).length
 ·have HE:=Lib.hid (bit_len_lt hlt);have hne:(((bits x).length:Int) != ((bits y).length:Int))=true:=by rw[bne_iff_ne];omega
  go_enter Tryz.func175,Tryz.ntmps175
  go_wp2
  go_ret
  exact⟨ret_int HE.out.symm,0,rfl⟩
 ·by_cases hgt:(bits y).length<(bits x).length
  ·have HE:=Lib.hid (bit_len_gt hgt);have hne:(((bits x).length:Int) != ((bits y).length:Int))=true:=by rw[bne_iff_ne];omega
   go_enter Tryz.func175,Tryz.ntmps175
   go_wp2
   go_ret
   exact⟨ret_int HE.out.symm,0,rfl⟩
  ·have HL:Hid ((bits x).length=(bits y).length):=by show _=_;omega
   have hne:(((bits x).length:Int) != ((bits y).length:Int))=false:=by rw[bne_eq_false_iff_eq];omega
   clear hlt hgt
   go_enter Tryz.func175,Tryz.ntmps175
   go_wp2
   go_loopw [5] (fun i wr=>∃ k:Nat,k≤(bits x).length∧i= .int .i64 ((k:Int)-1)∧Hid ((bits x).drop k=(bits y).drop k)∧∃ q,wr=w.drewN q) (fun i _=>(intOf i+1).toNat)
   case atStart=>exact⟨(bits x).length,Nat.le_refl _,rfl,by rw[Hid,List.drop_eq_nil_of_le (Nat.le_refl _),List.drop_eq_nil_of_le (by have:=HL.out;omega)],0,rfl⟩
   case round=>
    obtain⟨k,hk,rfl,HD,q,rfl⟩:=hrel;cases k with
    | zero=>
      have hxy:x=y:=bits_inj (by simpa using HD.out);subst hxy
      go_wp2
      go_ret
      exact⟨ret_int (by rw[cmpN_eq]),q,rfl⟩
    | succ j=>
      have hj':j<(bits y).length:=by have:=HL.out;omega
      have HT:=Lib.hid (bit_top (x:=x) (y:=y) (i:=j) HL.out (by omega) hj' HD.out);obtain⟨b,o,rfl,_,g1,_⟩:=oneB.get HR.out j (by omega);obtain⟨b',o',rfl,_,g2,_⟩:=oneB.get HR'.out j hj';unfold encB at g1 g2;have HG:Hid ((bits x)[j]=(bits y)[j]→(bits x).drop j=(bits y).drop j):=by
       intro he;rw[List.drop_eq_getElem_cons (by omega:j<(bits x).length),List.drop_eq_getElem_cons hj',he];exact congrArg _ HD.out
      generalize (bits x)[j]=u at*;generalize (bits y)[j]=v at*;cases u with
      | false=>
        cases v with
        | false=>
          go_wp2
          go_quiet (fail)
          go_wp2
          go_roundw
          case rel=>exact⟨j,by omega,by go_num,HG.out trivial,_,rfl⟩
          case measure=>simp[intOf]
        | true=>
          have HE:=Lib.hid (HT.out.1 rfl rfl)
          go_wp2
          go_quiet (fail)
          go_wp2
          go_ret
          exact⟨ret_int HE.out.symm,_,by first | rfl | rw[World.drewN_drewN]⟩
      | true=>
        cases v with
        | false=>
          have HE:=Lib.hid (HT.out.2 rfl rfl)
          go_wp2
          go_quiet (fail)
          go_wp2
          go_ret
          exact⟨ret_int HE.out.symm,_,by first | rfl | rw[World.drewN_drewN]⟩
        | true=>
          go_wp2
          go_quiet (fail)
          go_wp2
          go_roundw
          case rel=>exact⟨j,by omega,by go_num,HG.out trivial,_,rfl⟩
          case measure=>simp[intOf]
theorem copyU_any(l:List Nat)(a:Option Addr)(n c:Nat)(w:World)(h:Rp.lst.rel (Lt w.heap.size) w [.slice a n c] l)(hl:l.length≤1000000000):
  Calls Tryz.prog 167 #[.slice a n c] w fun e w'=>∃ a c,e= .returned (.slice a l.length c)∧Ext w w'∧Rp.lst.rel (Mo no w.heap.size w') w' [.slice a l.length c] l:=by
 obtain⟨rfl,h1,h2⟩:=lst_len h;have HX0:Hid (Ext w (w.alloc (Obj.cells #[] 229))):=(Below.refl _ _).al _;have HS:=Lib.hid (Rp.ext Rp.lst h HX0.out);clear h
 go_enter Tryz.func167,Tryz.ntmps167
 go_wp2_with (at_builtin;refine wp_append_all rfl _ _ _ rfl elemU (S0:=no) (n0:=w.heap.size) (l:=[]) rfl rfl (OwnL.made Rp.u32 no w.heap.size 229 w #[] 0 (Nat.le_refl _) (by simp[maxLen]) (by simp)) (l2:=l) (oneU.slc HS.out) (by simp;omega) HX0.out.size ?_)
 intro v' w' hown _ hB;obtain⟨ra,rc,rfl,hrel⟩:=hown.slice;have HH:=Lib.hid hrel;have HB:=Lib.hid (HX0.out.trans hB);clear hown hB hrel
 go_wp2_with fail
 go_ret
 exact⟨ra,rc,rfl,HB.out,HH.out⟩
theorem ofB_any(l:List Nat)(a:Option Addr)(n c:Nat)(w:World)(h:Rp.lst.rel (Lt w.heap.size) w [.slice a n c] l)(hl:l.length≤10000000):
  Calls Tryz.prog 119 #[.slice a n c] w (BitAns (dval 4294967296 l) no w):=by
 obtain⟨rfl,h1,h2⟩:=lst_len h;have H1:=Lib.hid h;clear h
 go_enter Tryz.func119,Tryz.ntmps119
 go_wp2
 go_loopw [3,10] (fun so si wr=>∃ k:Nat,si= .int .i64 k∧k≤l.length∧∃ (o:List Bool),Hid (o.length=32*k)∧Hid (bval o=dval 4294967296 (l.take k))∧
  Hid (OwnL Rp.bool no w.heap.size 4 wr so o)∧Hid (Ext w wr)) (fun _ si _=>l.length-(intOf si).toNat)
 case atStart=>exact⟨0,rfl,Nat.zero_le _,[],rfl,by simp[Hid,bval_nil],OwnL.made _ _ _ _ _ _ _ (Nat.le_refl _) (by simp[maxLen]) (by simp),(Below.refl _ _).al _⟩
 case round=>
  obtain⟨k,rfl,hk,o,HOL,HV,HO,HX⟩:=hrel;obtain⟨oa,oc,rfl,_,_⟩:=HO.out.shape;by_cases hlt:k<l.length
  ·obtain⟨b,ob,rfl,_,g1,hok⟩:=oneU.get (Rp.ext Rp.lst H1.out HX.out) k hlt;unfold encU at g1;have HTK:=Lib.hid (dval_take_succ (B:=4294967296) hlt);generalize l[k]=u at*
   go_wp2
   obtain⟨wo,rfl⟩:∃ wo:World,wo=wr:=⟨_,rfl⟩
   go_loopw [3,5,6] (fun so su si wr=>∃ i:Nat,si= .int .i64 i∧i≤32∧∃ (r:Nat) (o':List Bool),su= .int .u32 r∧r<4294967296∧Hid (r<2^(32-i))∧Hid (o'.length=i)∧Hid (bval o'+2^i*r=u)∧
    Hid (OwnL Rp.bool no w.heap.size 4 wr so (o++o'))∧Hid (Ext w wr)) (fun _ _ si _=>32-(intOf si).toNat)
   case atStart=>exact⟨0,rfl,by omega,u,[],rfl,hok,by simpa[Hid] using hok,rfl,by simp[Hid,bval_nil],by rw[List.append_nil];exact HO.out,HX.out⟩
   case round=>
    obtain⟨i,rfl,hi,r,o',rfl,hr,HR,HOL',HV',HO',HX'⟩:=hrel;have hol:(o++o').length≤400000000:=by rw[List.length_append,HOL.out,HOL'.out];omega
    obtain⟨oa',oc',rfl,_,_⟩:=HO'.out.shape;by_cases hil:i<32
    ·have hr2:r / 2<4294967296:=by omega
     have HR2:Hid (r / 2<2^(32-(i+1))):=by
      show r / 2<_;have h3:=HR.out;rw[show 32-i=32-(i+1)+1 by omega,Nat.pow_succ]at h3;omega
     rcases Nat.mod_two_eq_zero_or_one r with hm | hm
     ·have hmb:((r:Int) % 2==1)=false:=by rw[beq_eq_false_iff_ne];omega
      have HST:=Lib.hid (ofB_step (x:=false) HV'.out HOL'.out (by rw[hm];rfl));clear hm
      go_wp2_with (at_builtin;refine wp_pushB rfl _ _ rfl false rfl rfl HO'.out rfl rfl (by omega) HX'.out.size ?_)
      intro v' w' hown hB;have HO2:=Lib.hid hown;have HX2:=Lib.hid (HX'.out.trans hB);clear hown hB
      go_wp2
      go_roundw
      case rel=>exact⟨i+1,by go_num,by omega,r / 2,_,by go_num,hr2,HR2.out,by rw[Hid,List.length_append,HOL'.out];rfl,HST.out,HO2.out,HX2.out⟩
      case measure=>simp[intOf];omega
     ·have hmb:((r:Int) % 2==1)=true:=by rw[beq_iff_eq];omega
      have HST:=Lib.hid (ofB_step (x:=true) HV'.out HOL'.out (by rw[hm];rfl));clear hm
      go_wp2_with (at_builtin;refine wp_pushB rfl _ _ rfl true rfl rfl HO'.out rfl rfl (by omega) HX'.out.size ?_)
      intro v' w' hown hB;have HO2:=Lib.hid hown;have HX2:=Lib.hid (HX'.out.trans hB);clear hown hB
      go_wp2
      go_roundw
      case rel=>exact⟨i+1,by go_num,by omega,r / 2,_,by go_num,hr2,HR2.out,by rw[Hid,List.length_append,HOL'.out];rfl,HST.out,HO2.out,HX2.out⟩
      case measure=>simp[intOf];omega
    ·have HE:Hid (bval (o++o')=dval 4294967296 (l.take (k+1))∧(o++o').length=32*(k+1)):=by
      have hi32:i=32:=by omega
      have h3:=HV'.out;have h4:=HR.out;have h5:=HOL'.out;rw[hi32]at h3 h4 h5;have h6:r=0:=by simpa using h4
      rw[h6,Nat.mul_zero,Nat.add_zero]at h3;constructor
      ·rw[bval_append,HV.out,HTK.out,h3,HOL.out,pow32]
      ·rw[List.length_append,HOL.out,h5];omega
     go_wp2
     go_roundw
     case rel=>exact⟨k+1,by go_num,by omega,_,HE.out.2,HE.out.1,HO'.out,HX'.out⟩
     case measure=>simp[intOf];omega
  ·have HE:Hid (bval o=dval 4294967296 l):=by
    show bval o=_;rw[HV.out,List.take_of_length_le (by omega)]
   obtain⟨ca,cc2,e5,hcut⟩:=cutOwn HO.out HX.out rfl HE.out;injection e5 with e5 e6 e7;subst e5 e7;have HC:=Lib.hid hcut;clear hcut e6
   go_wp2_with fail
   refine HC.out.mono ?_;rintro e w2 ⟨ra,rc,rfl,hx,hr⟩;have HX2:=Lib.hid hx;have HR2:=Lib.hid hr;clear hx hr
   go_wp2_with fail
   go_ret
   exact⟨ra,rc,rfl,HX2.out,HR2.out⟩
theorem bits_zero':bits 0=[]:=bits_eq_nil.2 rfl
theorem bl_nil{S:Nat→Prop}{w:World}{a:Option Addr}{c:Nat}(hc:c≤maxLen):Rp.bl.rel S w [.slice a 0 c] []:=⟨a,c,rfl,Nat.zero_le _,hc,fun h=>absurd h (by simp)⟩
theorem bits_mul_len{x z n:Nat}(hz:z<2^n):(bits (x*z)).length≤(bits x).length+n:=by
 refine bits_len_le ?_;have h1:=bval_lt (bits x);rw[bits_val]at h1;exact lt_pow_mul h1 hz
theorem bval_take_lt(p:List Bool)(i:Nat):bval (p.take i)<2^i:=by
 have h1:=bval_lt (p.take i);exact Nat.lt_of_lt_of_le h1 (Nat.pow_le_pow_right (by decide) (List.length_take_le _ _))
theorem mulB_any(x y:Nat)(a a':Option Addr)(n n' c c':Nat)(w:World)(h:Rp.bl.rel (Lt w.heap.size) w [.slice a n c] (bits x))(h':Rp.bl.rel (Lt w.heap.size) w [.slice a' n' c'] (bits y))(hl:(bits x).length+(bits y).length≤400000000):
  Calls Tryz.prog 124 #[.slice a n c,.slice a' n' c'] w (BitAns (x*y) no w):=by
 obtain⟨rfl,h1,h2⟩:=bl_len h;obtain⟨rfl,h1',h2'⟩:=bl_len h';have H1:=Lib.hid h;clear h;have H2:=Lib.hid h';clear h';have HVy:=Lib.hid (bits_val y);generalize bits y=q at*
 go_enter Tryz.func124,Tryz.ntmps124
 go_wp2
 go_loopw [5,10] (fun so si wr=>∃ k:Nat,si= .int .i64 k∧k≤q.length∧∃ (a:Option Addr) (c:Nat),so= .slice a (bits (x*bval (q.take k))).length c∧Hid (Rp.bl.rel (Mo no w.heap.size wr) wr [so] (bits (x*bval (q.take k))))∧Hid (Ext w wr)) (fun _ si _=>q.length-(intOf si).toNat)
 case atStart=>
  refine⟨0,rfl,Nat.zero_le _,some ⟨w.heap.size,0,none⟩,0,?_,?_,(Below.refl _ _).al _⟩
  ·rw[List.take_zero,bval_nil,Nat.mul_zero,bits_zero'];rfl
  ·rw[List.take_zero,bval_nil,Nat.mul_zero,bits_zero'];exact bl_nil (by simp[maxLen])
 case round=>
  obtain⟨k,rfl,hk,oa,oc,rfl,HO,HX⟩:=hrel;by_cases hlt:k<q.length
  ·obtain⟨b,ob,rfl,_,g1,_⟩:=oneB.get (Rp.ext Rp.bl H2.out HX.out) k hlt;unfold encB at g1;have hts:=bval_take_succ hlt;cases hb:q[k]with
   | false=>
     rw[hb]at g1 hts;have HT:Hid (bval (q.take (k+1))=bval (q.take k)):=by show _=_;rw[hts];simp
     clear hb hts
     go_wp2
     go_roundw
     case rel=>exact⟨k+1,by go_num,by omega,oa,oc,by rw[HT.out],by rw[HT.out];exact HO.out,HX.out⟩
     case measure=>simp[intOf];omega
   | true=>
     rw[hb]at g1 hts;have HT:Hid (x*bval (q.take k)+x*2^k=x*bval (q.take (k+1))):=by show _=_;rw[hts,Nat.mul_add];simp
     clear hb hts;have hsh:=shlB_any (bits x) k a _ c wr (Rp.ext Rp.bl H1.out HX.out) (by omega) (by omega);rw[bits_val]at hsh;have HSH:=Lib.hid hsh;clear hsh
     go_wp2_with fail
     refine HSH.out.mono ?_;rintro e w1 ⟨sa,sc,rfl,hx1,hr1⟩;have HX1:=Lib.hid (HX.out.tr hx1);have had:=addB_any (x*bval (q.take k)) (x*2^k) oa sa _ _ oc sc w1 (Rp.up Rp.bl HO.out hx1) (Rp.lt Rp.bl hr1) (Nat.le_trans (bits_mul_len (bval_take_lt q k)) (by omega)) (Nat.le_trans (bits_mul_len (Nat.pow_lt_pow_right (by decide) (Nat.lt_succ_self k))) (by omega));rw[HT.out]at had;have HAD:=Lib.hid had;clear had hx1 hr1
     go_wp2_with fail
     refine HAD.out.mono ?_;rintro e w2 ⟨ta,tc,rfl,hx2,hr2⟩;have HX2:=Lib.hid (HX1.out.tr hx2);have HR2:=Lib.hid (Rp.bl.keep hr2 (S':=Mo no w.heap.size w2) (w':=w2) fun b hb=>⟨mo_up HX1.out b hb,rfl⟩);clear hx2 hr2
     go_wp2
     go_roundw
     case rel=>exact⟨k+1,by go_num,by omega,ta,tc,rfl,HR2.out,HX2.out⟩
     case measure=>simp[intOf];omega
  ·have HE:Hid (x*bval (q.take k)=x*y):=by show _=_;rw[bval_take_all (by omega),HVy.out]
   go_wp2
   go_ret
   refine⟨oa,oc,?_,HX.out,?_⟩
   ·rw[←HE.out];rfl
   ·rw[←HE.out];exact HO.out
theorem OwnL.lit1(w:World)(x:Bool)(T:TypeId):OwnL Rp.bool no w.heap.size T (w.alloc (.cells #[.bool x] T)) (.slice (some ⟨w.heap.size,0,none⟩) 1 1) [x]:=by
 refine oneB.row.2 ⟨?_,by simp⟩;have:=World.ownsRow_lit (base:=w.heap.size) (e:=T) (size:=1) w #[.bool x] 1 (Nat.le_refl _) (by simp[maxLen]) (by simp);simpa[encB] using this
def DivAnsB(x y:Nat)(w:World):Ending→World→Prop:=fun e w'=>∃ a c a' c',e= .returned (.tuple #[.slice a (bits (x / y)).length c,.slice a' (bits (x % y)).length c'])∧Ext w w'∧
 Rp.bl.rel (Mo no w.heap.size w') w' [.slice a (bits (x / y)).length c] (bits (x / y))∧Rp.bl.rel (Mo no w.heap.size w') w' [.slice a' (bits (x % y)).length c'] (bits (x % y))
theorem storeB{n0:Nat}{e:TypeId}{w:World}{g cap n:Nat}{xs:List Bool}(h:OwnL Rp.bool no n0 e w (.slice (some ⟨g,0,none⟩) n cap) xs)(i:Nat)(y:Bool):
  OwnL Rp.bool no n0 e (w.setCell ⟨g,i,none⟩ (.bool y)) (.slice (some ⟨g,0,none⟩) n cap) (xs.set i y)∧Below n0 w (w.setCell ⟨g,i,none⟩ (.bool y)):=
 ⟨(oneB.store h i y trivial).1,(Below.refl n0 w).setCell (h.own_lt g rfl).1 _⟩
theorem div_top{p:List Bool}{o:List Bool}{j Q R y:Nat}(hj:j<p.length)(h:bval (p.drop (j+1))=Q*y+R)(hR:R<y)(ho:bval o=2^(j+1)*Q)(hol:j<o.length)(hz:o.getD j false=false):
  (y≤p[j].toNat+2*R→bval (p.drop j)=(2*Q+1)*y+(p[j].toNat+2*R-y)∧bval (o.set j true)=2^j*(2*Q+1)∧p[j].toNat+2*R-y<y)∧
  (p[j].toNat+2*R<y→bval (p.drop j)=(2*Q)*y+(p[j].toNat+2*R)∧bval o=2^j*(2*Q)):=by
 rw[bval_drop hj];have hb:p[j].toNat≤1:=by cases p[j]<;>simp
 constructor
 ·intro hge;refine⟨divB_ge h hR hge,?_,by omega⟩;rw[bval_set hol (by rw[getD_in _ _ hol]at hz;exact hz),ho,Nat.pow_succ,Nat.mul_add,Nat.mul_assoc];simp
 ·intro hlt;exact⟨divB_lt h,by rw[ho,Nat.pow_succ,Nat.mul_assoc]⟩
theorem divmodB_any(x y:Nat)(a a':Option Addr)(n n' c c':Nat)(w:World)(h:Rp.bl.rel (Lt w.heap.size) w [.slice a n c] (bits x))(h':Rp.bl.rel (Lt w.heap.size) w [.slice a' n' c'] (bits y))(hl:(bits x).length≤200000000)(hm:(bits y).length≤200000000)(hy:0<y):
  Calls Tryz.prog 174 #[.slice a n c,.slice a' n' c'] w (DivAnsB x y w):=by
 obtain⟨rfl,h1,h2⟩:=bl_len h;obtain⟨rfl,h1',h2'⟩:=bl_len h';have H1:=Lib.hid h;clear h;have H2:=Lib.hid h';clear h';have HVx:=Lib.hid (bits_val x);generalize hp:bits x=p at*;clear hp
 go_enter Tryz.func174,Tryz.ntmps174
 go_wp2_with (at_make;refine wp_makeZ oneB rfl _ _ _ rfl elemBZ false rfl trivial no w.heap.size _ _ _ _ p.length p.length rfl rfl rfl rfl (by omega) (by omega) (by omega) (Nat.le_refl _) ?_)
 intro w0 hown0 hx0 hz0;have HX0:=Lib.hid hx0;have HO0:=Lib.hid hown0;clear hown0 hx0
 go_wp2
 go_loopw [7,8] (fun sr si wr=>∃ k:Nat,k≤p.length∧si= .int .i64 ((k:Int)-1)∧∃ (o:List Bool) (Q R:Nat) (ra:Option Addr) (rc:Nat),sr= .slice ra (bits R).length rc∧Hid (o.length=p.length∧∀ j,j<k→o.getD j false=false)∧Hid (bval o=2^k*Q∧bval (p.drop k)=Q*y+R)∧Hid (R<y)∧
  Hid (OwnL Rp.bool no w.heap.size 4 wr (.slice (some ⟨w.heap.size,0,none⟩) p.length p.length) o)∧Hid (Rp.bl.rel (fun b=>w.heap.size<b∧b<wr.heap.size) wr [sr] (bits R))∧Hid (Ext w wr)∧Hid (w.heap.size<wr.heap.size)) (fun _ si _=>(intOf si+1).toNat)
 case atStart=>
  refine⟨p.length,Nat.le_refl _,rfl,_,0,0,some ⟨w.heap.size+1,0,none⟩,0,?_,⟨by simp,fun j _=>?_⟩,⟨?_,by simp[bval_nil]⟩,hy,HO0.out.ext ((Below.refl _ _).al _),?_,HX0.out.al _,?_⟩
  ·rw[bits_zero'];rfl
  ·simp[List.getD,List.getElem?_replicate];split<;>simp
  ·rw[bval_zeros];simp
  ·rw[bits_zero'];exact bl_nil (by simp[maxLen])
  ·show w.heap.size<(w0.alloc _).heap.size;rw[World.size_alloc,hz0];omega
 case round=>
  obtain⟨k,hk,rfl,o,Q,R,ra,rc,rfl,HOL,HV,HR,HO,HRR,HX,HZ⟩:=hrel;cases k with
  | zero=>
    have h3:=HV.out;rw[Nat.pow_zero,Nat.one_mul,List.drop_zero,HVx.out]at h3;have HE:=Lib.hid (div_unique h3.2 HR.out);have HQV:Hid (bval o=x / y):=h3.1.trans HE.out.1;clear h3;obtain⟨a3,c3,e3,hrel⟩:=HO.out.slice;injection e3 with e3 e4 e5;subst e3 e5;rw[HOL.out.1]at hrel;have hrb:=hrel;rw[←HOL.out.1]at hrb;have hrb2:=rel_bits hrb;rw[HQV.out,HOL.out.1]at hrb2;have HQB:=Lib.hid hrb2;have HQR:=Lib.hid hrel;have HRR2:=Lib.hid (Rp.bl.keep HRR.out (S':=Mo no w.heap.size wr) (w':=wr) fun b hb=>⟨⟨.inr (Nat.le_of_lt hb.1),hb.2⟩,rfl⟩);clear hrel hrb hrb2 e4
    go_wp2_with fail
    refine(cutB_any o _ _ _ wr _ HQR.out).mono ?_;rintro e w2 ⟨rfl,rfl⟩;rw[HQV.out]
    go_wp2
    go_ret2
    refine⟨some ⟨w.heap.size,0,none⟩,p.length,ra,rc,?_,HX.out,HQB.out,?_⟩
    ·rw[←HE.out.2];rfl
    ·rw[←HE.out.2];exact HRR2.out
  | succ j=>
    have hjp:j<p.length:=by omega
    obtain⟨b,ob,rfl,_,g1,_⟩:=oneB.get (Rp.ext Rp.bl H1.out HX.out) j hjp;unfold encB at g1;have hdt:=div_top (o:=o) hjp HV.out.2 HR.out HV.out.1 (by rw[HOL.out.1];exact hjp) (HOL.out.2 j (by omega));have HDT:=Lib.hid hdt;have hRl:(bits R).length≤200000000:=Nat.le_trans (by rw[bits_len,bits_len];exact digs_len_mono (by decide) (Nat.le_of_lt HR.out)) hm;clear hdt;generalize p[j]=u at*;have HL1:=Lib.hid (OwnL.lit1 wr u 4);have HRA:=Lib.hid (Rp.bl.keep HRR.out (S':=Lt (wr.alloc (Obj.cells #[.bool u] 4)).heap.size) (w':=wr.alloc (Obj.cells #[.bool u] 4)) fun b hb=>⟨by have h9:b<wr.heap.size:=hb.2;simp;omega,((Below.refl wr.heap.size wr).al _).block b hb.2⟩)
    go_wp2_with (at_builtin;refine wp_append_all rfl _ _ _ rfl elemB (S0:=no) (n0:=wr.heap.size) (l:=[u]) rfl rfl HL1.out (l2:=bits R) (oneB.slc HRA.out) (by simp;omega) (by simp) ?_)
    intro v' w1 hown1 _ hB1;have hv:Hid (bval ([u]++bits R)=u.toNat+2*R):=by show bval ([u]++bits R)=_;rw[List.singleton_append,bval_cons,bits_val]
    obtain⟨ca,cc,rfl,hcut⟩:=cutOwn hown1 (((Below.refl wr.heap.size wr).al _).trans hB1) rfl hv.out;have HC:=Lib.hid hcut;rw[List.length_cons]at HC;clear hcut hown1 hB1 hv;have hN:(bits (u.toNat+2*R)).length≤400000000:=by
     refine Nat.le_trans (bits_len_le (k:=(bits y).length+1) ?_) (by omega);have h7:=bval_lt (bits y);rw[bits_val]at h7;have h8:u.toNat≤1:=by cases u<;>simp
     have h9:=HR.out;rw[Nat.pow_succ];omega
    go_wp2_with fail
    refine HC.out.mono ?_;rintro e w2 ⟨sa,sc,rfl,hx2,hr2⟩;have HX2:=Lib.hid (HX.out.tr hx2);have HO2:=Lib.hid (HO.out.ext hx2);have hz2:wr.heap.size≤w2.heap.size:=hx2.size;have HZR:=Lib.hid HZ.out;have HR2:=Lib.hid (Rp.bl.keep hr2 (S':=fun b=>w.heap.size<b∧b<w2.heap.size) (w':=w2) fun b hb=>⟨⟨Nat.lt_of_lt_of_le HZ.out (hb.1.resolve_left id),hb.2⟩,rfl⟩);have HRL:=Lib.hid (Rp.lt Rp.bl hr2);have HCM:=Lib.hid (cmpB_any (u.toNat+2*R) y sa a' _ _ sc c' w2 _ _ HRL.out (Rp.ext Rp.bl H2.out HX2.out));clear hx2 hr2 HC;generalize u.toNat+2*R=N at*
    go_wp2_with fail
    refine HCM.out.mono ?_;rintro e w3 ⟨rfl,qq,rfl⟩;by_cases hge:y≤N
    ·have hc:0≤cmpN N y:=by unfold cmpN;rw[if_neg (by omega)];split<;>omega
     generalize cmpN N y=cm at*;have HSB:=Lib.hid (subB_any N y sa a' _ _ sc c' (w2.drewN qq) (Rp.bl.keep HRL.out fun b hb=>⟨hb,rfl⟩) (Rp.ext Rp.bl H2.out (HX2.out.drN qq)) (by omega) hge);have HF:=Lib.hid (HDT.out.1 hge);clear hge
     go_wp2_with fail
     refine HSB.out.mono ?_;rintro e w4 ⟨ta,tc,rfl,hx4,hr4⟩;have HX4:=Lib.hid ((HX2.out.drN qq).tr hx4);have HO4:=Lib.hid ((HO2.out.ext ((Below.refl w2.heap.size w2).drN qq)).ext hx4);have hz4:w2.heap.size≤w4.heap.size:=hx4.size;have HZ4:Hid (w.heap.size<w4.heap.size):=Nat.lt_of_lt_of_le HZR.out (Nat.le_trans hz2 hz4);obtain⟨g3,g4⟩:=oneB.cell HO4.out j (by rw[HOL.out.1];exact hjp);unfold encB at g3;obtain⟨s1,s2⟩:=storeB HO4.out j true;have HO5:=Lib.hid s1;have HX5:=Lib.hid (HX4.out.trans s2);have HR5:=Lib.hid (Rp.bl.keep hr4 (S':=fun b=>w.heap.size<b∧b<(w4.setCell ⟨w.heap.size,j,none⟩ (.bool true)).heap.size) (w':=w4.setCell ⟨w.heap.size,j,none⟩ (.bool true)) fun b hb=>⟨⟨Nat.lt_of_lt_of_le HZR.out (Nat.le_trans hz2 (hb.1.resolve_left id)),by have h9:b<w4.heap.size:=hb.2;simpa[World.setCell] using h9⟩,far_cell (by have h9:w2.heap.size≤b:=hb.1.resolve_left id;have:=HZR.out;omega)⟩);have HZ5:Hid (w.heap.size<(w4.setCell ⟨w.heap.size,j,none⟩ (.bool true)).heap.size):=by show _<_;have:=HZ4.out;simpa[World.setCell] using this
     have HOL5:Hid ((o.set j true).length=p.length∧∀ i,i<j→(o.set j true).getD i false=false):=⟨by rw[List.length_set];exact HOL.out.1,fun i hi=>by
      have h9:=HOL.out.2 i (by omega);rw[List.getD_eq_getElem?_getD]at h9 ⊢;rw[List.getElem?_set_ne (by omega)];exact h9⟩
     clear s1 s2 hx4 hr4
     go_wp2
     go_roundw
     case rel=>exact⟨j,by omega,rfl,_,2*Q+1,N-y,ta,tc,rfl,HOL5.out,⟨HF.out.2.1,HF.out.1⟩,HF.out.2.2,HO5.out,HR5.out,HX5.out,HZ5.out⟩
     case measure=>simp[intOf]
    ·have hc:cmpN N y= -1:=cmpN_lt (by omega);rw[hc];have HF:=Lib.hid (HDT.out.2 (by omega));have HNY:=Lib.hid (Nat.lt_of_not_le hge);have HO3:=Lib.hid (HO2.out.ext ((Below.refl w2.heap.size w2).drN qq));have HR3:=Lib.hid (Rp.bl.keep HR2.out (S':=fun b=>w.heap.size<b∧b<(w2.drewN qq).heap.size) (w':=w2.drewN qq) fun b hb=>⟨hb,rfl⟩);have HX3:=Lib.hid (HX2.out.drN qq);have HZ3:Hid (w.heap.size<(w2.drewN qq).heap.size):=Nat.lt_of_lt_of_le HZR.out hz2;have HOL5:Hid (o.length=p.length∧∀ i,i<j→o.getD i false=false):=⟨HOL.out.1,fun i hi=>HOL.out.2 i (by omega)⟩
     clear hge hc
     go_wp2
     go_roundw
     case rel=>exact⟨j,by omega,rfl,_,2*Q,N,sa,sc,rfl,HOL5.out,⟨HF.out.2,HF.out.1⟩,HNY.out,HO3.out,HR3.out,HX3.out,HZ3.out⟩
     case measure=>simp[intOf]
theorem gcdB_any(x y:Nat)(a a':Option Addr)(n n' c c':Nat)(w:World)(S:Nat→Prop)(hS:∀ b,S b→b<w.heap.size)(h:Rp.bl.rel S w [.slice a n c] (bits x))(h':Rp.bl.rel S w [.slice a' n' c'] (bits y))(hl:(bits x).length≤200000000)(hm:(bits y).length≤200000000):
  Calls Tryz.prog 173 #[.slice a n c,.slice a' n' c'] w (BitAns (Nat.gcd x y) S w):=by
 obtain⟨rfl,h1,h2⟩:=bl_len h;obtain⟨rfl,h1',h2'⟩:=bl_len h';have H1:=Lib.hid (Rp.bl.keep h (S':=Mo S w.heap.size w) (w':=w) fun b hb=>⟨⟨.inl hb,hS b hb⟩,rfl⟩);have H2:=Lib.hid (Rp.bl.keep h' (S':=Mo S w.heap.size w) (w':=w) fun b hb=>⟨⟨.inl hb,hS b hb⟩,rfl⟩);clear h h'
 go_enter Tryz.func173,Tryz.ntmps173
 go_wp2
 go_loopg [0,1] y (fun gk s0 s1 wr=>∃ (x':Nat) (a a':Option Addr) (c c':Nat),s0= .slice a (bits x').length c∧s1= .slice a' (bits gk).length c'∧(bits x').length≤200000000∧(bits gk).length≤200000000∧Hid (Nat.gcd x' gk=Nat.gcd x y)∧
  Hid (Rp.bl.rel (Mo S w.heap.size wr) wr [s0] (bits x'))∧Hid (Rp.bl.rel (Mo S w.heap.size wr) wr [s1] (bits gk))∧Hid (Ext w wr))
 case atStart=>exact⟨x,a,a',c,c',rfl,rfl,hl,hm,rfl,H1.out,H2.out,Below.refl _ _⟩
 case round=>
  obtain⟨x',a,a',c,c',rfl,rfl,hxl,hyl,HG,HX,HY,HE⟩:=hrel;by_cases h0:gk=0
  ·have hg:x'=Nat.gcd x y:=by rw[←HG.out,h0,Nat.gcd_zero_right]
   have HGG:=Lib.hid hg;have hnil:bits gk=[]:=by rw[h0,bits_zero']
   clear hg h0
   go_wp2
   go_ret
   refine⟨a,c,?_,HE.out,?_⟩
   ·rw[←HGG.out];rfl
   ·rw[←HGG.out];exact HX.out
  ·have hyn:¬ bits gk=[]:=fun e=>h0 (bits_eq_nil.1 e);have hlp:(0:Int)<((bits gk).length:Int):=by have:=List.length_pos_iff.2 hyn;omega
   have HDM:=Lib.hid (divmodB_any x' gk a a' _ _ c c' wr (Rp.lt Rp.bl HX.out) (Rp.lt Rp.bl HY.out) hxl hyl (by omega));have hlt:x' % gk<gk:=Nat.mod_lt _ (by omega);have HG2:Hid (Nat.gcd gk (x' % gk)=Nat.gcd x y):=by
    show _=_;rw[Nat.gcd_comm,←Nat.gcd_rec,Nat.gcd_comm];exact HG.out
   have hll:(bits (x' % gk)).length≤200000000:=Nat.le_trans (by rw[bits_len,bits_len];exact digs_len_mono (by decide) (Nat.le_of_lt hlt)) hyl
   go_wp2_with fail
   refine HDM.out.mono ?_;rintro e w3 ⟨qa,qc,ra,rc,rfl,hx3,_,hr3⟩;have HE3:=Lib.hid (HE.out.tr hx3);have HY3:=Lib.hid (Rp.bl.keep HY.out (S':=Mo S w.heap.size w3) (w':=w3) fun b hb=>⟨⟨hb.1,Nat.lt_of_lt_of_le hb.2 hx3.size⟩,hx3.block b hb.2⟩);have HR3:=Lib.hid (Rp.bl.keep hr3 (S':=Mo S w.heap.size w3) (w':=w3) fun b hb=>⟨mo_up HE.out b hb,rfl⟩);clear hx3 hr3
   go_wp2
   go_roundg (x' % gk)
   case measure=>exact hlt
   case rel=>exact⟨gk,a',ra,c',rc,rfl,rfl,hyl,hll,HG2.out,HY3.out,HR3.out,HE3.out⟩
end Go.Proofs.YthdkkpocihkgbaaGreatDoor
