import Derived.Deep.CutRange
import Derived.Deep.LoopGhost
import Derived.Test.YtbbpecfapohlaaaGreatDoorRows
import Derived.Test.YtbbpecfapohlaaaGreatDoorK2
import Derived.Test.YtbbpecfapohlaaaGreatDoorP1
import Derived.Test.YtbbpecfapohlaaaGreatDoorBitsW
set_option maxRecDepth 100000
set_option maxHeartbeats 800000
namespace Go.Proofs.YtbbpecfapohlaaaGreatDoor
open Go.RowKit
abbrev no:Nat→Prop:=fun _=>False
def Rp.lst:Rp (List Nat):=Rp.slice Rp.u32
theorem lst_dg{S:Nat→Prop}{w:World}{a:Option Addr}{n c:Nat}{l:List Nat}(h:Rp.lst.rel S w [.slice a n c] l):Dg 4294967296 l:=oneU.all h
theorem lst_len{S:Nat→Prop}{w:World}{a:Option Addr}{n c:Nat}{l:List Nat}(h:Rp.lst.rel S w [.slice a n c] l):n=l.length∧n≤c∧c≤9223372036854775807:=by
 obtain⟨h1,h2,h3⟩:=slice_len h;exact⟨h1,h2,by unfold maxLen at h3;omega⟩
theorem cut_any(l:List Nat)(a:Option Addr)(n c:Nat)(w:World)(S:Nat→Prop)(h:Rp.lst.rel S w [.slice a n c] l):
  Calls Tryz.prog 244 #[.slice a n c] w fun e w'=>e= .returned (.slice a (limbs (dval 4294967296 l)).length c)∧w=w':=by
 obtain⟨rfl,h1,h2⟩:=lst_len h;have hl:=digs_take_len (B:=4294967296) (by decide) (lst_dg h);have HD:=Lib.hid (lst_dg h);have H:=Lib.hid h;clear h hl
 go_enter Tryz.func244,Tryz.ntmps244
 go_wp2
 go_loop [0] (fun s=>∃ n:Nat,n≤l.length∧s= .slice a n c∧Hid (dval 4294967296 (l.take n)=dval 4294967296 l)) (fun s=>match s with | .slice _ n _=>n | _=>0)
 case atStart=>exact⟨l.length,Nat.le_refl _,rfl,by simp[Hid]⟩
 case round=>
  obtain⟨n,hn,rfl,HV⟩:=hrel;cases n with
  | zero=>
    have HF:=Lib.hid (digs_take (B:=4294967296) (by decide) HD.out (Nat.zero_le _) HV.out (.inl rfl))
    go_wp2
    go_ret
    refine⟨?_,rfl⟩;unfold limbs;rw[HF.out];rfl
  | succ m=>
    obtain⟨b,o,rfl,_,hc,hok⟩:=oneU.get H.out m (by omega);unfold encU at hc;by_cases h0:l[m]=0
    ·have HV2:=Lib.hid ((dval_take_pred (B:=4294967296) (l:=l) (n:=m+1) (by omega) (by rw[Nat.add_sub_cancel,getD_in _ _ (by omega)];exact h0)).trans HV.out);have he:((l[m]:Int)==0)=true:=by simp[h0]
     clear h0
     go_wp2
     go_round
     case rel=>exact⟨m,by omega,rfl,HV2.out⟩
     case measure=>simp
    ·have HF:=Lib.hid (digs_take (B:=4294967296) (by decide) HD.out hn HV.out (.inr (by rw[Nat.add_sub_cancel,getD_in _ _ (by omega)];exact h0)));have he:((l[m]:Int)==0)=false:=by simp[h0]
     clear h0
     go_wp2
     go_ret
     refine⟨?_,rfl⟩;unfold limbs;rw[HF.out];simp;omega
theorem rel_nat{S:Nat→Prop}{w:World}{a:Option Addr}{c:Nat}{l:List Nat}(h:Rp.lst.rel S w [.slice a l.length c] l):Rp.lst.rel S w [.slice a (limbs (dval 4294967296 l)).length c] (limbs (dval 4294967296 l)):=by
 obtain⟨h1,h2⟩:=digs_take_len (B:=4294967296) (by decide) (lst_dg h);obtain⟨a',c',e,h3,h4,h5⟩:=h;injection e with e;injection e with e1 e2 e3;subst e1 e3;refine⟨a,c,rfl,Nat.le_trans h2 h3,h4,fun hp=>?_⟩;have hp':0<(limbs (dval 4294967296 l)).length:=hp;obtain⟨b,o,ha,hb,hel⟩:=h5 (Nat.lt_of_lt_of_le hp' h2);refine⟨b,o,ha,hb,fun i hi=>?_⟩;obtain⟨es,hr,hc⟩:=hel i (Nat.lt_of_lt_of_le hi h2);refine⟨es,?_,hc⟩;have:(limbs (dval 4294967296 l))[i]=l[i]'(Nat.lt_of_lt_of_le hi h2):=by
  have h6:limbs (dval 4294967296 l)=l.take (limbs (dval 4294967296 l)).length:=h1;rw[List.getElem_of_eq h6 hi,List.getElem_take]
 rw[this];exact hr
theorem elemU:Elem Tryz.prog 102 225 1 4:=Elem.of (by kernel_rfl) (by kernel_rfl)
theorem One.slc{α:Type}{R:Rp α}{enc:α→Value}{ok:α→Prop}(O:One R enc ok){S S':Nat→Prop}{w:World}{a:Option Addr}{n c:Nat}{l:List α}(h:(Rp.slice R).rel S w [.slice a n c] l):SlC R S' w a n l:=by
 obtain⟨h1,css,h2,h3,h4⟩:=SlC.of_rel h;exact⟨h1,css,h2,fun i hi hi'=>O.rel.2 (O.rel.1 (h3 i hi hi')),h4⟩
theorem OwnL.slice{α:Type}{R:Rp α}{S0:Nat→Prop}{n0:Nat}{e:TypeId}{w:World}{v:Value}{l:List α}(h:OwnL R S0 n0 e w v l):∃ a c,v= .slice a l.length c∧(Rp.slice R).rel (Mo S0 n0 w) w [.slice a l.length c] l:=by
 obtain⟨a,c,rfl,_,_⟩:=h.shape;exact⟨a,c,rfl,h.shut⟩
theorem norm_own(l:List Nat)(a:Option Addr)(n c:Nat)(w:World)(S:Nat→Prop)(h:Rp.lst.rel S w [.slice a n c] l)(hl:l.length≤1000000000):
  Calls Tryz.prog 211 #[.slice a n c] w fun e w'=>∃ a c,e= .returned (.slice a (limbs (dval 4294967296 l)).length c)∧Ext w w'∧OwnL Rp.u32 no w.heap.size 225 w' (.slice a (limbs (dval 4294967296 l)).length c) (limbs (dval 4294967296 l)):=by
 obtain⟨rfl,h1,h2⟩:=lst_len h;have hr:=rel_nat h;have hlen:(limbs (dval 4294967296 l)).length≤l.length:=(digs_take_len (B:=4294967296) (by decide) (lst_dg h)).2;have H:=Lib.hid h;clear h;have HR:=Lib.hid hr;clear hr
 go_enter Tryz.func211,Tryz.ntmps211
 go_wp2_with fail
 refine(cut_any l a _ c _ S H.out).mono ?_;rintro e w1 ⟨rfl,rfl⟩
 go_wp2_with (at_builtin;refine wp_append_all rfl _ _ _ rfl elemU (S0:=no) (n0:=w.heap.size) (v:= .slice none 0 0) (l:=[]) rfl rfl (OwnL.nil Rp.u32 no _ _ _) (l2:=limbs (dval 4294967296 l)) (oneU.slc HR.out) (by simp;omega) (Nat.le_refl _) ?_)
 intro v' w' hown hU hB;obtain⟨ra,rc,rfl,hrel⟩:=hown.slice;have HH:=Lib.hid hown;have HB:=Lib.hid hB;clear hown hU hB hrel
 go_wp2_with fail
 go_ret
 exact⟨ra,rc,rfl,HB.out,HH.out⟩
theorem norm_any(l:List Nat)(a:Option Addr)(n c:Nat)(w:World)(S:Nat→Prop)(h:Rp.lst.rel S w [.slice a n c] l)(hl:l.length≤1000000000):
  Calls Tryz.prog 211 #[.slice a n c] w fun e w'=>∃ a c,e= .returned (.slice a (limbs (dval 4294967296 l)).length c)∧Ext w w'∧Rp.lst.rel (Mo no w.heap.size w') w' [.slice a (limbs (dval 4294967296 l)).length c] (limbs (dval 4294967296 l)):=
 (norm_own l a n c w S h hl).mono fun _ _ ⟨a,c,h1,h2,h3⟩=>⟨a,c,h1,h2,h3.shut⟩
theorem limbs_val(n:Nat):dval 4294967296 (limbs n)=n:=digs_val (by decide) n
theorem limbs_nrm(n:Nat):Nrm (limbs n):=digs_nrm (by decide) n
theorem limbs_dg(n:Nat):Dg 4294967296 (limbs n):=digs_dg (by decide) n
theorem cmp_lt_len{x y:Nat}(h:(limbs x).length<(limbs y).length):cmpN x y= -1:=by
 refine cmpN_lt ?_;have:=nrm_lt_len (B:=4294967296) (by decide) (limbs_dg x) (limbs_nrm y) h;rwa[limbs_val,limbs_val]at this
theorem cmp_gt_len{x y:Nat}(h:(limbs y).length<(limbs x).length):cmpN x y=1:=by
 refine cmpN_gt ?_;have:=nrm_lt_len (B:=4294967296) (by decide) (limbs_dg y) (limbs_nrm x) h;rwa[limbs_val,limbs_val]at this
theorem cmp_top{x y:Nat}{i:Nat}(hl:(limbs x).length=(limbs y).length)(hi:i<(limbs x).length)(hi':i<(limbs y).length)(he:(limbs x).drop (i+1)=(limbs y).drop (i+1)):
  ((limbs x)[i]<(limbs y)[i]→cmpN x y= -1)∧((limbs y)[i]<(limbs x)[i]→cmpN x y=1):=by
 constructor
 ·intro h;refine cmpN_lt ?_;have:=top_lt (limbs_dg x) i hi hi' hl he h;rwa[limbs_val,limbs_val]at this
 ·intro h;refine cmpN_gt ?_;have:=top_lt (limbs_dg y) i hi' hi hl.symm he.symm h;rwa[limbs_val,limbs_val]at this
theorem limbs_inj{x y:Nat}(h:limbs x=limbs y):x=y:=digs_inj (by decide) h
theorem ret_int{k:IntKind}{a b:Int}(h:a=b):Ending.returned (.int k a)= .returned (.int k b):=by rw[h]
theorem ret_bool{a b:Bool}(h:a=b):Ending.returned (.bool a)= .returned (.bool b):=by rw[h]
theorem cmp_any(l m:List Nat)(a a':Option Addr)(n n' c c':Nat)(w:World)(S S':Nat→Prop)(h:Rp.lst.rel S w [.slice a n c] l)(h':Rp.lst.rel S' w [.slice a' n' c'] m):
  Calls Tryz.prog 274 #[.slice a n c,.slice a' n' c'] w fun e w'=>e= .returned (.int .i64 (cmpN (dval 4294967296 l) (dval 4294967296 m)))∧∃ q,w'=w.drewN q:=by
 obtain⟨rfl,h1,h2⟩:=lst_len h;obtain⟨rfl,h1',h2'⟩:=lst_len h';have HR:=Lib.hid (rel_nat h);have HR':=Lib.hid (rel_nat h');have H:=Lib.hid h;clear h;have H':=Lib.hid h';clear h'
 go_enter Tryz.func274,Tryz.ntmps274
 go_wp2_with fail
 refine(cut_any l a _ c _ S H.out).mono ?_;rintro e w1 ⟨rfl,rfl⟩
 go_wp2_with fail
 refine(cut_any m a' _ c' _ S' H'.out).mono ?_;rintro e w1 ⟨rfl,rfl⟩;generalize hx:dval 4294967296 l=x at*;generalize hy:dval 4294967296 m=y at*;have HX:=Lib.hid hx;have HY:=Lib.hid hy;clear hx hy H H' h1 h1' h2 h2';obtain⟨_,h1,h2⟩:=lst_len HR.out;obtain⟨_,h1',h2'⟩:=lst_len HR'.out;by_cases hlt:(limbs x).length<(limbs y).length
 ·have HE:=Lib.hid (cmp_lt_len hlt);have hne:(((limbs x).length:Int) != ((limbs y).length:Int))=true:=by rw[bne_iff_ne];omega
  go_wp2
  go_ret
  exact⟨ret_int (by rw[HX.out,HY.out];exact HE.out.symm),0,rfl⟩
 ·by_cases hgt:(limbs y).length<(limbs x).length
  ·have HE:=Lib.hid (cmp_gt_len hgt);have hne:(((limbs x).length:Int) != ((limbs y).length:Int))=true:=by rw[bne_iff_ne];omega
   go_wp2
   go_ret
   exact⟨ret_int (by rw[HX.out,HY.out];exact HE.out.symm),0,rfl⟩
  ·have HL:Hid ((limbs x).length=(limbs y).length):=by show _=_;omega
   have hne:(((limbs x).length:Int) != ((limbs y).length:Int))=false:=by rw[bne_eq_false_iff_eq];omega
   clear hlt hgt
   go_wp2
   go_loopw [5] (fun i wr=>∃ k:Nat,k≤(limbs x).length∧i= .int .i64 ((k:Int)-1)∧Hid ((limbs x).drop k=(limbs y).drop k)∧∃ q,wr=w.drewN q) (fun i _=>(intOf i+1).toNat)
   case atStart=>exact⟨(limbs x).length,Nat.le_refl _,rfl,by rw[Hid,List.drop_eq_nil_of_le (Nat.le_refl _),List.drop_eq_nil_of_le (by have:=HL.out;omega)],0,rfl⟩
   case round=>
    obtain⟨k,hk,rfl,HD,q,rfl⟩:=hrel;cases k with
    | zero=>
      have hxy:x=y:=limbs_inj (by simpa using HD.out);subst hxy
      go_wp2
      go_ret
      exact⟨ret_int (by rw[HX.out,HY.out,cmpN_eq]),q,rfl⟩
    | succ j=>
      have hj':j<(limbs y).length:=by have:=HL.out;omega
      have HT:=Lib.hid (cmp_top (x:=x) (y:=y) (i:=j) HL.out (by omega) hj' HD.out);obtain⟨b,o,rfl,_,g1,_⟩:=oneU.get HR.out j (by omega);obtain⟨b',o',rfl,_,g2,_⟩:=oneU.get HR'.out j hj';unfold encU at g1 g2;have HG:Hid ((limbs x)[j]=(limbs y)[j]→(limbs x).drop j=(limbs y).drop j):=by
       intro he;rw[List.drop_eq_getElem_cons (by omega:j<(limbs x).length),List.drop_eq_getElem_cons hj',he];exact congrArg _ HD.out
      generalize (limbs x)[j]=u at*;generalize (limbs y)[j]=v at*;rcases Nat.lt_trichotomy u v with h3 | h3 | h3
      ·have HE:=Lib.hid (HT.out.1 h3);have e1:((u:Int) != (v:Int))=true:=by rw[bne_iff_ne];omega
       go_wp2
       go_quiet (fail)
       go_wp2
       go_quiet (fail)
       go_wp2
       go_ret
       exact⟨ret_int (by rw[HX.out,HY.out];exact HE.out.symm),_,by rw[World.drewN_drewN,World.drewN_drewN]⟩
      ·subst h3;have e1:((u:Int) != (u:Int))=false:=by rw[bne_eq_false_iff_eq]
       go_wp2
       go_quiet (fail)
       go_wp2
       go_roundw
       case rel=>exact⟨j,by omega,by go_num,HG.out trivial,_,rfl⟩
       case measure=>simp[intOf]
      ·have HE:=Lib.hid (HT.out.2 h3);have e1:((u:Int) != (v:Int))=true:=by rw[bne_iff_ne];omega
       have e2:((u:Int)<(v:Int))=False:=by simp;omega
       go_wp2
       go_quiet (fail)
       go_wp2
       go_quiet (fail)
       go_wp2
       go_ret
       exact⟨ret_int (by rw[HX.out,HY.out];exact HE.out.symm),_,by rw[World.drewN_drewN,World.drewN_drewN]⟩
def NatAns(x:Nat)(w:World):Ending→World→Prop:=fun e w'=>∃ a c,e= .returned (.slice a (limbs x).length c)∧Ext w w'∧Rp.lst.rel (Mo no w.heap.size w') w' [.slice a (limbs x).length c] (limbs x)
theorem NatAns.of{x:Nat}{w w1 w':World}{e:Ending}{l:List Nat}(h:dval 4294967296 l=x)(hx:Ext w w1)(k:∃ a c,e= .returned (.slice a (limbs (dval 4294967296 l)).length c)∧Ext w1 w'∧Rp.lst.rel (Mo no w1.heap.size w') w' [.slice a (limbs (dval 4294967296 l)).length c] (limbs (dval 4294967296 l))):NatAns x w e w':=by
 subst h;obtain⟨a,c,rfl,h1,h2⟩:=k;exact⟨a,c,rfl,hx.tr h1,(Rp.slice _).mono h2 fun b hb=>⟨.inr (by have:=hx.size;rcases hb.1 with h | h;exact h.elim;omega),hb.2⟩⟩
theorem wp_pushU{w:World}{ops:Array Oper}{rest:List Oper}{o:Oper}{a:Act}{Q:Exit→Act→World→Prop}(hgd:o.guard=none)(s x:Operand)
  (hop:o.op= .call {callee:= .builtin .append,args:= #[s,x],argTypes:= #[102,102] }) {n0 g:Nat} {v:Value} {cs:Array Value} {l:List Nat} (y:Nat) {z:Int}
  (hx:a.eval x= .slice (some ⟨g,0,none⟩) 1 1) (hs:a.eval s=v) (hown:OwnL Rp.u32 no n0 225 w v l) (hg:g=w.heap.size) (hcs:cs= #[.int .u32 z]) (hz:z=(y:Int)) (hy:y<4294967296) (hl:l.length≤2000000000) (hn:n0≤w.heap.size)
  (h:∀ v' w',OwnL Rp.u32 no n0 225 w' v' (l++[y])→Below n0 w w'→wpList Tryz.prog ops Q rest (a.put o.dst v') w'):wpList Tryz.prog ops Q (o::rest) a (w.alloc (.cells cs 225)):=by
 subst hcs hz;exact wp_push hgd s x _ hop elemU (y:=y) hx hs hown hg ⟨rfl,hy⟩ (by omega) hn fun v' w' h1 _ h3=>h v' w' h1 h3
theorem add_any(l m:List Nat)(a a':Option Addr)(n n' c c':Nat)(w:World)(h:Rp.lst.rel (Lt w.heap.size) w [.slice a n c] l)(h':Rp.lst.rel (Lt w.heap.size) w [.slice a' n' c'] m)(hl:l.length≤500000000)(hm:m.length≤500000000):
  Calls Tryz.prog 278 #[.slice a n c,.slice a' n' c'] w (NatAns (dval 4294967296 l+dval 4294967296 m) w):=by
 obtain⟨rfl,h1,h2⟩:=lst_len h;obtain⟨rfl,h1',h2'⟩:=lst_len h';have H:=Lib.hid h;clear h;have H':=Lib.hid h';clear h'
 go_enter Tryz.func278,Tryz.ntmps278
 go_upto_if 13 with (fail)
 go_cut [0,1]from 5 (fun s t wc=>w=wc∧∃ (p q:List Nat) (a a':Option Addr) (c c':Nat),s= .slice a p.length c∧t= .slice a' q.length c'∧q.length≤p.length∧p.length≤500000000∧Hid (Rp.lst.rel (Lt w.heap.size) w [s] p)∧Hid (Rp.lst.rel (Lt w.heap.size) w [t] q)∧Hid (dval 4294967296 p+dval 4294967296 q=dval 4294967296 l+dval 4294967296 m))
 case first=>
  go_wp2
  all_goals go_meet
  ·exact⟨rfl,m,l,a',a,c',c,rfl,rfl,by omega,hm,H'.out,H.out,by rw[Hid,Nat.add_comm]⟩
  ·exact⟨rfl,l,m,a,a',c,c',rfl,rfl,by omega,hl,H.out,H'.out,rfl⟩
 case rest=>
  obtain⟨rfl,p,q,a,a',c,c',rfl,rfl,hqp,hp,H1,H2,HS⟩:=hcut;clear H H' h1 h1' h2 h2'
  go_wp2_with (at_make;refine wp_make0 rfl _ _ _ rfl elemU no w.heap.size (R:=Rp.u32) _ _ _ (p.length+1) rfl rfl (by push_cast;rfl) (by omega) (by omega) (Nat.le_refl _) ?_)
  intro w0 hown0 hx0 hz0;have HO0:=Lib.hid hown0;have HX0:=Lib.hid hx0;clear hown0 hx0;have HDp:=Lib.hid (lst_dg H1.out);have HDq:=Lib.hid (lst_dg H2.out)
  go_wp2
  go_loopw [5,6,22] (fun so sc si wr=>∃ k:Nat,k≤p.length∧si= .int .i64 k∧∃ (o:List Nat) (cc:Nat),sc= .int .u64 cc∧cc≤1∧Hid (o.length=k)∧Hid (dval 4294967296 o+4294967296^k*cc=dval 4294967296 (p.take k)+dval 4294967296 (q.take k))∧Hid (OwnL Rp.u32 no w.heap.size 225 wr so o)∧Hid (Ext w wr)) (fun _ _ si _=>p.length-(intOf si).toNat)
  case atStart=>exact⟨0,Nat.zero_le _,rfl,[],0,rfl,by omega,rfl,by simp[Hid],HO0.out,HX0.out⟩
  case round=>
   obtain⟨k,hk,rfl,o,cc,rfl,hcc,HOL,HV,HO,HX⟩:=hrel;obtain⟨oa,oc,rfl,_,_⟩:=HO.out.shape;have hol:o.length≤p.length:=by have:=HOL.out;omega
   by_cases hlt:k<p.length
   ·obtain⟨b,ob,rfl,_,g1,hok1⟩:=oneU.get ((Rp.slice _).below H1.out HX.out HX.out.size) k hlt;unfold encU at g1;have hpk:p.getD k 0=p[k]:=getD_in _ _ hlt;have HST:=Lib.hid (add_step (B:=4294967296) (a:=p) (b:=q) HOL.out HV.out);rw[hpk]at HST;clear hpk;generalize p[k]=u at*;by_cases hq:k<q.length
    ·obtain⟨b',ob',rfl,_,g2,hok2⟩:=oneU.get ((Rp.slice _).below H2.out HX.out HX.out.size) k hq;unfold encU at g2;rw[getD_in _ _ hq]at HST;generalize q[k]=v at*
     go_wp2_with (at_builtin;refine wp_pushU rfl _ _ rfl ((cc+u+v) % 4294967296) rfl rfl HO.out rfl rfl (by omega) (Nat.mod_lt _ (by omega)) (by omega) HX.out.size ?_)
     intro v' w' hown hB;have HO2:=Lib.hid hown;have HX2:=Lib.hid (HX.out.trans hB);clear hown hB
     go_wp2
     go_roundw
     case rel=>exact⟨k+1,by omega,by go_num,_,(cc+u+v) / 4294967296,by go_num,carry_le hcc hok1 hok2,by rw[Hid,List.length_append,HOL.out];rfl,HST.out,HO2.out,HX2.out⟩
     case measure=>simp[intOf];omega
    ·rw[getD_out _ _ (by omega),Nat.add_zero]at HST
     go_wp2_with (at_builtin;refine wp_pushU rfl _ _ rfl ((cc+u) % 4294967296) rfl rfl HO.out rfl rfl (by omega) (Nat.mod_lt _ (by omega)) (by omega) HX.out.size ?_)
     intro v' w' hown hB;have HO2:=Lib.hid hown;have HX2:=Lib.hid (HX.out.trans hB);clear hown hB
     go_wp2
     go_roundw
     case rel=>exact⟨k+1,by omega,by go_num,_,(cc+u) / 4294967296,by go_num,by have:=carry_le (y:=0) hcc hok1 (by omega);simpa using this,by rw[Hid,List.length_append,HOL.out];rfl,HST.out,HO2.out,HX2.out⟩
     case measure=>simp[intOf];omega
   ·have hkp:k=p.length:=by omega
    have HE:Hid (dval 4294967296 (o++[cc])=dval 4294967296 l+dval 4294967296 m):=by
     show _=_;rw[dval_concat,HOL.out,HV.out,List.take_of_length_le (by omega),List.take_of_length_le (by omega)];exact HS.out
    clear hkp
    go_wp2_with (at_builtin;refine wp_pushU rfl _ _ rfl cc rfl rfl HO.out rfl rfl (by omega) (by omega) (by omega) HX.out.size ?_)
    intro v' w' hown hB;obtain⟨na,nc,rfl,hrel⟩:=hown.slice;rw[List.length_append]at hrel;have HR:=Lib.hid hrel;have HX2:=Lib.hid (HX.out.trans hB);clear hown hB hrel
    go_wp2_with fail
    refine(norm_any _ _ _ _ _ _ HR.out (by simp;omega)).mono ?_;rintro e w2 k2;have HN:=Lib.hid (NatAns.of HE.out HX2.out k2);obtain⟨a2,c2,rfl,_,_⟩:=k2
    go_wp2_with fail
    go_ret
    exact HN.out
theorem storeU{n0:Nat}{e:TypeId}{w:World}{g cap n:Nat}{xs:List Nat}(h:OwnL Rp.u32 no n0 e w (.slice (some ⟨g,0,none⟩) n cap) xs)(i y:Nat){z:Int}(hz:z=(y:Int))(hy:y<4294967296):
  OwnL Rp.u32 no n0 e (w.setCell ⟨g,i,none⟩ (.int .u32 z)) (.slice (some ⟨g,0,none⟩) n cap) (xs.set i y)∧Below n0 w (w.setCell ⟨g,i,none⟩ (.int .u32 z)):=by
 subst hz;obtain⟨h1,h2⟩:=oneU.store h i y hy;exact⟨h1,(Below.refl n0 w).setCell (h.own_lt g rfl).1 _⟩
theorem OwnL.drN{α:Type}{R:Rp α}{S0:Nat→Prop}{n0:Nat}{e:TypeId}{w:World}{v:Value}{l:List α}(h:OwnL R S0 n0 e w v l)(q:Nat):OwnL R S0 n0 e (w.drewN q) v l:=h.ext ((Below.refl _ _).drN q)
theorem elemUZ:ElemZ Tryz.prog 102 225 (.int .u32 0) 1 4:=ElemZ.of (by kernel_rfl) (by kernel_rfl)
theorem Rp.drN{α:Type}(R:Rp α){S:Nat→Prop}{w:World}{cs:List Value}{x:α}(h:R.rel S w cs x)(q:Nat):R.rel S (w.drewN q) cs x:=R.keep h fun _ hb=>⟨hb,rfl⟩
def NatAns2(x:Nat)(y:Bool)(w:World):Ending→World→Prop:=fun e w'=>∃ a c,e= .returned (.tuple #[.slice a (limbs x).length c,.bool y])∧Ext w w'∧Rp.lst.rel (Mo no w.heap.size w') w' [.slice a (limbs x).length c] (limbs x)
theorem limbs_zero:limbs 0=[]:=digs_zero _
theorem rel_nil{S:Nat→Prop}{w:World}:Rp.lst.rel S w [.slice none 0 0] []:=⟨none,0,rfl,by simp,by simp[maxLen],by simp⟩
theorem NatAns2.nil{b:Bool}{w w':World}(hx:Ext w w'):NatAns2 0 b w (.returned (.tuple #[.slice none 0 0,.bool b])) w':=⟨none,0,by rw[limbs_zero];rfl,hx,by rw[limbs_zero];exact rel_nil⟩
theorem NatAns.two{x:Nat}{w w':World}{a:Option Addr}{n c:Nat}(h:NatAns x w (.returned (.slice a n c)) w')(b:Bool):NatAns2 x b w (.returned (.tuple #[.slice a n c,.bool b])) w':=by
 obtain⟨a',c',e,hx,hr⟩:=h;injection e with e;injection e with e1 e2 e3;subst e1 e2 e3;exact⟨_,_,rfl,hx,hr⟩
theorem subB_endB{B n w X Y O:Nat}(h:O+Y=X+B^n*w)(hO:O<B^n)(hle:Y≤X):O=X-Y:=by
 rcases Nat.eq_zero_or_pos w with h0 | h0
 ·subst h0;omega
 ·have:B^n≤B^n*w:=Nat.le_mul_of_pos_right _ h0;omega
theorem sub_lt(p q:List Nat)(a a':Option Addr)(n n' c c':Nat)(w:World)(h:Rp.lst.rel (Lt w.heap.size) w [.slice a n c] p)(h':Rp.lst.rel (Lt w.heap.size) w [.slice a' n' c'] q)(hlt:dval 4294967296 p<dval 4294967296 q):
  Calls Tryz.prog 279 #[.slice a n c,.slice a' n' c'] w (NatAns2 0 false w):=by
 obtain⟨rfl,h1,h2⟩:=lst_len h;obtain⟨rfl,h1',h2'⟩:=lst_len h';have H1:=Lib.hid h;clear h;have H2:=Lib.hid h';clear h';have HC:=Lib.hid (cmpN_lt hlt);clear hlt
 go_enter Tryz.func279,Tryz.ntmps279
 go_wp2_with fail
 refine(cmp_any p q a a' _ _ c c' _ _ _ H1.out H2.out).mono ?_;rintro e w1 ⟨rfl,qq,rfl⟩;rw[HC.out]
 go_wp2
 go_ret2
 exact NatAns2.nil ((Below.refl _ _).drN _)
theorem sub_ge(p q:List Nat)(a a':Option Addr)(n n' c c':Nat)(w:World)(h:Rp.lst.rel (Lt w.heap.size) w [.slice a n c] p)(h':Rp.lst.rel (Lt w.heap.size) w [.slice a' n' c'] q)(hp:p.length≤500000000)(hge:dval 4294967296 q≤dval 4294967296 p):
  Calls Tryz.prog 279 #[.slice a n c,.slice a' n' c'] w (NatAns2 (dval 4294967296 p-dval 4294967296 q) true w):=by
 obtain⟨rfl,h1,h2⟩:=lst_len h;obtain⟨rfl,h1',h2'⟩:=lst_len h';have H1:=Lib.hid h;clear h;have H2:=Lib.hid h';clear h';have hc:0≤cmpN (dval 4294967296 p) (dval 4294967296 q):=by unfold cmpN;rw[if_neg (by omega)];split<;>omega
 have HG:=Lib.hid hge;clear hge
 go_enter Tryz.func279,Tryz.ntmps279
 go_wp2_with fail
 refine(cmp_any p q a a' _ _ c c' _ _ _ H1.out H2.out).mono ?_;rintro e w1 ⟨rfl,qq,rfl⟩;generalize cmpN (dval 4294967296 p) (dval 4294967296 q)=cm at*
 go_wp2_with (at_make;refine wp_makeZ oneU rfl _ _ _ rfl elemUZ 0 rfl (by omega) no w.heap.size _ _ _ _ p.length p.length rfl rfl rfl rfl (by omega) (by omega) (by omega) (Nat.le_refl _) ?_)
 intro w0 hown0 hx0 hz0;have HX0:=Lib.hid (((Below.refl _ w).drN qq).tr hx0);have HO0:=Lib.hid hown0;clear hown0 hx0;have HDp:=Lib.hid (lst_dg H1.out);have HDq:=Lib.hid (lst_dg H2.out)
 go_wp2
 go_loopw [7,20] (fun sc si wr=>∃ k:Nat,k≤p.length∧si= .int .i64 k∧∃ (o:List Nat) (cc:Nat),sc= .int .i64 cc∧cc≤1∧Hid (o.length=p.length)∧Hid (dval 4294967296 (o.take k)+dval 4294967296 (q.take k)=dval 4294967296 (p.take k)+4294967296^k*cc)∧Hid (OwnL Rp.u32 no w.heap.size 225 wr (.slice (some ⟨w.heap.size,0,none⟩) p.length p.length) o)∧Hid (Ext w wr)) (fun _ si _=>p.length-(intOf si).toNat)
 case atStart=>exact⟨0,Nat.zero_le _,rfl,_,0,rfl,by omega,by simp[Hid],by simp[Hid],HO0.out,HX0.out⟩
 case round=>
  obtain⟨k,hk,rfl,o,cc,rfl,hcc,HOL,HV,HO,HX⟩:=hrel;by_cases hlt:k<p.length
  ·obtain⟨b,ob,rfl,_,g1,hok1⟩:=oneU.get ((Rp.slice _).below H1.out HX.out HX.out.size) k hlt;obtain⟨g3,g4⟩:=oneU.cell HO.out k (by have:=HOL.out;omega);unfold encU at g1 g3;by_cases hq:k<q.length
   ·obtain⟨b',ob',rfl,_,g2,hok2⟩:=oneU.get ((Rp.slice _).below H2.out HX.out HX.out.size) k hq;unfold encU at g2;have HST:=Lib.hid (sub_step (B:=4294967296) (a:=p) (b:=q) (o:=o) (i:=k) (w:=cc) (d:=(p[k]:Int)-cc-q[k]) (by have:=HOL.out;omega) hcc (by rw[getD_in _ _ hlt];exact hok1) (by rw[getD_in _ _ hq];exact hok2) (by rw[getD_in _ _ hlt,getD_in _ _ hq]) HV.out);generalize p[k]=u at*;generalize q[k]=v at*;by_cases hd:(u:Int)-cc-v<0
    ·have HS2:=HST.out;rw[if_pos hd]at HS2;obtain⟨s1,s2⟩:=storeU HO.out k (((u:Int)-cc-v) % 4294967296).toNat (z:=((u:Int)-cc-v) % 4294967296) (by omega) (by omega);have HO2:=Lib.hid s1;have HX2:=Lib.hid (HX.out.trans s2);clear s1 s2;have HS3:=Lib.hid HS2;clear HS2
     go_wp2
     go_roundw
     case rel=>exact⟨k+1,by omega,by go_num,_,1,rfl,by omega,by rw[Hid,List.length_set];exact HOL.out,HS3.out,HO2.out,HX2.out⟩
     case measure=>simp[intOf];omega
    ·have HS2:=HST.out;rw[if_neg hd]at HS2;obtain⟨s1,s2⟩:=storeU HO.out k (((u:Int)-cc-v) % 4294967296).toNat (z:=(u:Int)-cc-v) (by omega) (by omega);have HO2:=Lib.hid s1;have HX2:=Lib.hid (HX.out.trans s2);clear s1 s2;have HS3:=Lib.hid HS2;clear HS2
     go_wp2
     go_roundw
     case rel=>exact⟨k+1,by omega,by go_num,_,0,rfl,by omega,by rw[Hid,List.length_set];exact HOL.out,HS3.out,HO2.out,HX2.out⟩
     case measure=>simp[intOf];omega
   ·have HST:=Lib.hid (sub_step (B:=4294967296) (a:=p) (b:=q) (o:=o) (i:=k) (w:=cc) (d:=(p[k]:Int)-cc) (by have:=HOL.out;omega) hcc (by rw[getD_in _ _ hlt];exact hok1) (by rw[getD_out _ _ (by omega)];omega) (by rw[getD_in _ _ hlt,getD_out _ _ (by omega)];simp) HV.out);generalize p[k]=u at*;by_cases hd:(u:Int)-cc<0
    ·have HS2:=HST.out;rw[if_pos hd]at HS2;obtain⟨s1,s2⟩:=storeU HO.out k (((u:Int)-cc) % 4294967296).toNat (z:=((u:Int)-cc) % 4294967296) (by omega) (by omega);have HO2:=Lib.hid s1;have HX2:=Lib.hid (HX.out.trans s2);clear s1 s2;have HS3:=Lib.hid HS2;clear HS2
     go_wp2
     go_roundw
     case rel=>exact⟨k+1,by omega,by go_num,_,1,rfl,by omega,by rw[Hid,List.length_set];exact HOL.out,HS3.out,HO2.out,HX2.out⟩
     case measure=>simp[intOf];omega
    ·have HS2:=HST.out;rw[if_neg hd]at HS2;obtain⟨s1,s2⟩:=storeU HO.out k (((u:Int)-cc) % 4294967296).toNat (z:=(u:Int)-cc) (by omega) (by omega);have HO2:=Lib.hid s1;have HX2:=Lib.hid (HX.out.trans s2);clear s1 s2;have HS3:=Lib.hid HS2;clear HS2
     go_wp2
     go_roundw
     case rel=>exact⟨k+1,by omega,by go_num,_,0,rfl,by omega,by rw[Hid,List.length_set];exact HOL.out,HS3.out,HO2.out,HX2.out⟩
     case measure=>simp[intOf];omega
  ·have hkp:k=p.length:=by omega
   have HE:Hid (dval 4294967296 o=dval 4294967296 p-dval 4294967296 q):=by
    have h3:=HV.out;have h4:=HG.out;have h5:dval 4294967296 (q.take k)=dval 4294967296 q∨q.length>k:=by
     rcases Nat.lt_or_ge k q.length with h | h
     ·exact .inr h
     ·exact .inl (by rw[List.take_of_length_le h])
    have h6:=dval_lt (B:=4294967296) (oneU.okAll HO.out);rw[HOL.out,←hkp]at h6;rw[List.take_of_length_le (by rw[HOL.out];omega),List.take_of_length_le (l:=p) (by omega)]at h3;have h7:dval 4294967296 (q.take k)≤dval 4294967296 q:=by
     rcases Nat.lt_or_ge k q.length with h | h
     ·rw[dval_split (B:=4294967296) (l:=q) k (by omega)];omega
     ·rw[List.take_of_length_le h];exact Nat.le_refl _
    have h8:dval 4294967296 (q.take k)=dval 4294967296 q:=by
     rcases Nat.lt_or_ge k q.length with h | h
     ·
      have h9:=dval_split (B:=4294967296) (l:=q) k (by omega);have h10:=dval_lt HDp.out;rw[←hkp]at h10;rcases Nat.eq_zero_or_pos (dval 4294967296 (q.drop k))with h11 | h11
      ·rw[h9,h11];simp
      ·exfalso;have:=Nat.le_mul_of_pos_right (4294967296^k) h11;omega
     ·rw[List.take_of_length_le h]
    rw[h8]at h3;exact subB_endB h3 h6 h4
   go_wp2_with fail
   obtain⟨a3,c3,e3,hrel⟩:=HO.out.slice;injection e3 with e3 e4 e5;subst e3 e5;rw[HOL.out]at hrel;have HR:=Lib.hid hrel;clear hrel e4;refine(norm_any o _ _ _ _ _ HR.out (by have:=HOL.out;omega)).mono ?_;rintro e w2 k2;have k2':=HE.out▸k2;have HN:=Lib.hid ((NatAns.of HE.out HX.out k2));obtain⟨a2,c2,rfl,_,_⟩:=k2;have HN2:=Lib.hid (HN.out.two true);clear HN k2'
   go_wp2_with fail
   go_ret2
   exact HN2.out
theorem lst_lit(w:World)(T:TypeId)(cs:Array Value)(l:List Nat)(h:cs.toList=l.map encU)(hd:Dg 4294967296 l)(hl:l.length≤maxLen):Rp.lst.rel (Lt (w.heap.size+1)) (w.alloc (.cells cs T)) [.slice (some ⟨w.heap.size,0,none⟩) l.length l.length] l:=by
 have hs:cs.size=l.length:=by rw[←Array.length_toList,h,List.length_map]
 refine⟨_,l.length,rfl,Nat.le_refl _,hl,fun hp=>⟨w.heap.size,0,rfl,by show _<_;omega,fun i hi=>⟨[encU l[i]],⟨rfl,hd _ (List.getElem_mem hi)⟩,fun j hj=>?_⟩⟩⟩;simp only[List.length_singleton]at hj;have:j=0:=by omega
 subst this;simp only[World.cell?,heap_alloc_new,List.getElem_cons_zero,Rp.u32,Nat.mul_one,Nat.add_zero,Nat.zero_add];have h2:cs[i]?=some (encU l[i]):=by rw[←Array.getElem?_toList,h,List.getElem?_map,List.getElem?_eq_getElem hi];rfl
 simp[h2]
theorem word_any(u:Nat)(w:World)(hu:u<18446744073709551616):
  Calls Tryz.prog 132 #[.int .u64 u] w (NatAns u w):=by
 go_enter Tryz.func132,Tryz.ntmps132
 have hr:=lst_lit w 225 #[.int .u32 ((u:Int) % 4294967296),.int .u32 ((u:Int) / 4294967296)] [u % 4294967296,u / 4294967296] (by simp[encU]) (by intro x hx;simp at hx;omega) (by simp[maxLen]);have HR:=Lib.hid hr;have HV:Hid (dval 4294967296 [u % 4294967296,u / 4294967296]=u):=by show _=_;simp only[dval_cons,dval_nil];omega
 clear hr
 go_wp2_with fail
 refine(norm_any _ _ _ _ _ _ HR.out (by simp)).mono ?_;rintro e w2 k2;have HN:=Lib.hid (NatAns.of HV.out ((Below.refl w.heap.size w).alloc (Nat.le_refl _) _) k2);obtain⟨a2,c2,rfl,_,_⟩:=k2
 go_wp2_with fail
 go_ret
 exact HN.out
theorem shiftOK_any(s:Nat)(w:World)(hs:s≤31):
  Calls Tryz.prog 327 #[.int .i64 s] w fun e w'=>e= .returned (.bool true)∧w=w':=by
 go_enter Tryz.func327,Tryz.ntmps327
 go_wp2
 go_ret
 exact⟨ret_bool (by simp;omega),rfl⟩
def NatOwn2(x:Nat)(w:World):Ending→World→Prop:=fun e w'=>∃ a c,e= .returned (.tuple #[.slice a (limbs x).length c,.bool true])∧Ext w w'∧OwnL Rp.u32 no w.heap.size 225 w' (.slice a (limbs x).length c) (limbs x)
theorem OwnL.base{l:List Nat}{n0 n1:Nat}{e:TypeId}{w:World}{v:Value}(h:OwnL Rp.u32 no n1 e w v l)(hn:n0≤n1):OwnL Rp.u32 no n0 e w v l:=by
 obtain⟨h1,h2⟩:=oneU.row.1 h;refine oneU.row.2 ⟨⟨h1.1,?_⟩,h2⟩;rcases h1.2 with h3 | ⟨g,cap,cur,h4,h5,h6⟩
 ·exact .inl h3
 ·exact .inr ⟨g,cap,cur,h4,by omega,h6⟩
theorem shl_own(p:List Nat)(s:Nat)(a:Option Addr)(n c:Nat)(w:World)(h:Rp.lst.rel (Lt w.heap.size) w [.slice a n c] p)(hp:p.length≤500000000)(hs:s≤31):
  Calls Tryz.prog 318 #[.slice a n c,.int .i64 s] w (NatOwn2 (dval 4294967296 p*2^s) w):=by
 obtain⟨rfl,h1,h2⟩:=lst_len h;have H1:=Lib.hid h;clear h
 go_enter Tryz.func318,Tryz.ntmps318
 go_wp2_with fail
 refine(shiftOK_any s _ hs).mono ?_;rintro e w1 ⟨rfl,rfl⟩;have hz:(s:Int) / 32=0:=by omega
 have hm:(s:Int) % 32=s:=by omega
 go_wp2_with (at_make;refine wp_make0 rfl _ _ _ rfl elemU no w.heap.size (R:=Rp.u32) _ _ _ (p.length+1) rfl rfl (by push_cast;rfl) (by omega) (by omega) (Nat.le_refl _) ?_)
 intro w0 hown0 hx0 hz0;have HO0:=Lib.hid hown0;have HX0:=Lib.hid hx0;clear hown0 hx0;have HDp:=Lib.hid (lst_dg H1.out)
 go_wp2
 go_loopw [6,7,24] (fun so sc si wr=>∃ k:Nat,k≤p.length∧si= .int .i64 k∧∃ (o:List Nat) (cc:Nat),sc= .int .u64 cc∧cc<4294967296∧Hid (cc<2^s∧o.length=k)∧Hid (dval 4294967296 o+4294967296^k*cc=dval 4294967296 (p.take k)*2^s)∧Hid (OwnL Rp.u32 no w.heap.size 225 wr so o)∧Hid (Ext w wr)) (fun _ _ si _=>p.length-(intOf si).toNat)
 case atStart=>exact⟨0,Nat.zero_le _,rfl,[],0,rfl,by omega,⟨Nat.pow_pos (by decide),rfl⟩,by simp[Hid],HO0.out,HX0.out⟩
 case round=>
  obtain⟨k,hk,rfl,o,cc,rfl,hcc,HOL,HV,HO,HX⟩:=hrel;obtain⟨oa,oc,rfl,_,_⟩:=HO.out.shape;have hol:o.length≤p.length:=by have:=HOL.out.2;omega
  by_cases hlt:k<p.length
  ·obtain⟨b,ob,rfl,_,g1,hok1⟩:=oneU.get ((Rp.slice _).below H1.out HX.out HX.out.size) k hlt;unfold encU at g1;generalize hu:p[k]=u at*;have HU:=Lib.hid hu;clear hu;have hor:=or_shl HOL.out.1 hok1 hs;have HSTE:=Lib.hid (fun hu=>shl_step (B:=4294967296) (s:=s) (u:=u) HOL.out.2 hlt hu HV.out);have hN:=shl_lt hok1 hs;have hN2:cc+u*2^s≤9223372036854775808:=by have:=HOL.out.1;omega
   have HC2:=Lib.hid (shl_carry HOL.out.1 hok1);have hC3:(cc+u*2^s) / 4294967296<4294967296:=by omega
   generalize cc+u*2^s=N at*;clear hN
   go_wp2_with (at_builtin;refine wp_pushU rfl _ _ rfl (N % 4294967296) rfl rfl HO.out rfl rfl (by omega) (Nat.mod_lt _ (by omega)) (by omega) HX.out.size ?_)
   intro v' w' hown hB;have HO2:=Lib.hid hown;have HX2:=Lib.hid (HX.out.trans hB);clear hown hB
   go_wp2
   go_roundw
   case rel=>exact⟨k+1,by omega,by go_num,_,N / 4294967296,by go_num,hC3,⟨HC2.out,by rw[List.length_append,HOL.out.2];rfl⟩,HSTE.out HU.out,HO2.out,HX2.out⟩
   case measure=>simp[intOf];omega
  ·have hkp:k=p.length:=by omega
   have HE:Hid (dval 4294967296 (o++[cc])=dval 4294967296 p*2^s):=by
    show _=_;rw[dval_concat,HOL.out.2,HV.out,List.take_of_length_le (by omega)]
   clear hkp
   go_wp2_with (at_builtin;refine wp_pushU rfl _ _ rfl cc rfl rfl HO.out rfl rfl (by omega) (by omega) (by omega) HX.out.size ?_)
   intro v' w' hown hB;obtain⟨na,nc,rfl,hrel⟩:=hown.slice;rw[List.length_append]at hrel;have HR:=Lib.hid hrel;have HX2:=Lib.hid (HX.out.trans hB);clear hown hB hrel
   go_wp2_with fail
   refine(norm_own _ _ _ _ _ _ HR.out (by simp;omega)).mono ?_;rintro e w2 ⟨a2,c2,rfl,hx3,hown3⟩;rw[HE.out]at hown3;have HN2:Hid (NatOwn2 (dval 4294967296 p*2^s) w (.returned (.tuple #[.slice a2 (limbs (dval 4294967296 (o++[cc]))).length c2,.bool true])) w2):=by
    show NatOwn2 _ _ _ _;rw[HE.out];exact⟨a2,c2,rfl,HX2.out.tr hx3,hown3.base (HX2.out.size)⟩
   clear hx3 hown3
   go_wp2_with fail
   go_ret2
   exact HN2.out
theorem shl_any(p:List Nat)(s:Nat)(a:Option Addr)(n c:Nat)(w:World)(h:Rp.lst.rel (Lt w.heap.size) w [.slice a n c] p)(hp:p.length≤500000000)(hs:s≤31):
  Calls Tryz.prog 318 #[.slice a n c,.int .i64 s] w (NatAns2 (dval 4294967296 p*2^s) true w):=
 (shl_own p s a n c w h hp hs).mono fun _ _ ⟨a,c,h1,h2,h3⟩=>⟨a,c,h1,h2,h3.shut⟩
theorem castShr(N s:Nat):((N:Int) / 2^s % 4294967296)=((N / 2^s % 4294967296:Nat):Int):=by rw[Int.natCast_emod,Int.natCast_ediv,Int.natCast_pow];rfl
theorem or_32{u v:Nat}(hu:u<4294967296)(hv:v<4294967296):Go.bits .or .u64 (u:Int) ((v:Int)*4294967296)=((u+v*4294967296:Nat):Int):=by
 have h2:(v:Int)*4294967296=((v*2^32:Nat):Int):=by rw[Int.natCast_mul];rfl
 rw[h2,bits_or_u64_nat _ _ (by omega) (by omega),or_disj 32 u v hu]
theorem shr_any(p:List Nat)(s:Nat)(a:Option Addr)(n c:Nat)(w:World)(h:Rp.lst.rel (Lt w.heap.size) w [.slice a n c] p)(hp:p.length≤500000000)(hp0:0<p.length)(hs:s≤31):
  Calls Tryz.prog 321 #[.slice a n c,.int .i64 s] w (NatAns2 (dval 4294967296 p / 2^s) true w):=by
 obtain⟨rfl,h1,h2⟩:=lst_len h;obtain⟨b,ob,rfl,_⟩:=oneU.get h 0 hp0;have H1:=Lib.hid h;clear h;have hz:(s:Int) / 32=0:=by omega
 have hm:(s:Int) % 32=s:=by omega
 have hne:¬ p=[]:=by intro h;simp[h]at hp0
 go_enter Tryz.func321,Tryz.ntmps321
 go_wp2_with fail
 refine(shiftOK_any s _ hs).mono ?_;rintro e w1 ⟨rfl,rfl⟩
 go_wp2_with (at_make;refine wp_makeZ oneU rfl _ _ _ rfl elemUZ 0 rfl (by omega) no w.heap.size _ _ _ _ p.length p.length rfl rfl rfl rfl (by omega) (by omega) (by omega) (Nat.le_refl _) ?_)
 intro w0 hown0 hx0 hz0;have HX0:=Lib.hid hx0;have HO0:=Lib.hid hown0;clear hown0 hx0;have HDp:=Lib.hid (lst_dg H1.out)
 go_wp2
 go_loopw [26] (fun si wr=>∃ k:Nat,k≤p.length∧si= .int .i64 k∧∃ (o:List Nat),Hid (o.length=p.length)∧Hid (dval 4294967296 (o.take k)=dval 4294967296 p / 2^s % 4294967296^k)∧Hid (OwnL Rp.u32 no w.heap.size 225 wr (.slice (some ⟨w.heap.size,0,none⟩) p.length p.length) o)∧Hid (Ext w wr)) (fun si _=>p.length-(intOf si).toNat)
 case atStart=>exact⟨0,Nat.zero_le _,rfl,_,by simp[Hid],by simp[Hid,Nat.mod_one],HO0.out,HX0.out⟩
 case round=>
  obtain⟨k,hk,rfl,o,HOL,HV,HO,HX⟩:=hrel;by_cases hlt:k<p.length
  ·obtain⟨b',ob',e1,_,g1,hok1⟩:=oneU.get ((Rp.slice _).below H1.out HX.out HX.out.size) k hlt;injection e1 with e1;injection e1 with e1 e2 e3;subst e1 e2;clear e3;obtain⟨g3,g4⟩:=oneU.cell HO.out k (by have:=HOL.out;omega);unfold encU at g1 g3;have hst:=shr_limb (p:=p) (k:=k) (s:=s) HDp.out hs hlt;by_cases hq:k+1<p.length
   ·obtain⟨b',ob',e1,_,g2,hok2⟩:=oneU.get ((Rp.slice _).below H1.out HX.out HX.out.size) (k+1) hq;injection e1 with e1;injection e1 with e1 e2 e3;subst e1 e2;clear e3;unfold encU at g2;rw[getD_in _ _ hq]at hst;have HST:=Lib.hid hst;clear hst;generalize p[k]=u at*;generalize p[k+1]=v at*;have hor:=or_32 hok1 hok2;have hN:u+v*4294967296<18446744073709551616:=by omega
    generalize u+v*4294967296=N at*;have HS2:Hid (dval 4294967296 ((o.set k (N / 2^s % 4294967296)).take (k+1))=dval 4294967296 p / 2^s % 4294967296^(k+1)):=by
     show _=_;rw[dval_take_succ (by rw[List.length_set,HOL.out];omega),List.take_set_of_le (Nat.le_refl _),HV.out,List.getElem_set_self,mod_step,HST.out]
    obtain⟨s1,s2⟩:=storeU HO.out k (N / 2^s % 4294967296) (z:=(N:Int) / 2^s % 4294967296) (castShr N s) (Nat.mod_lt _ (by decide));have HO2:=Lib.hid s1;have HX2:=Lib.hid (HX.out.trans s2);clear s1 s2
    go_wp2
    go_roundw
    case rel=>exact⟨k+1,by omega,by go_num,_,by rw[Hid,List.length_set];exact HOL.out,HS2.out,HO2.out,HX2.out⟩
    case measure=>simp[intOf];omega
   ·rw[getD_out _ _ (by omega),Nat.zero_mul,Nat.add_zero]at hst;have HST:=Lib.hid hst;clear hst;generalize p[k]=u at*;have HS2:Hid (dval 4294967296 ((o.set k (u / 2^s % 4294967296)).take (k+1))=dval 4294967296 p / 2^s % 4294967296^(k+1)):=by
     show _=_;rw[dval_take_succ (by rw[List.length_set,HOL.out];omega),List.take_set_of_le (Nat.le_refl _),HV.out,List.getElem_set_self,mod_step,HST.out]
    obtain⟨s1,s2⟩:=storeU HO.out k (u / 2^s % 4294967296) (z:=(u:Int) / 2^s % 4294967296) (castShr u s) (Nat.mod_lt _ (by decide));have HO2:=Lib.hid s1;have HX2:=Lib.hid (HX.out.trans s2);clear s1 s2
    go_wp2
    go_roundw
    case rel=>exact⟨k+1,by omega,by go_num,_,by rw[Hid,List.length_set];exact HOL.out,HS2.out,HO2.out,HX2.out⟩
    case measure=>simp[intOf];omega
  ·have hkp:k=p.length:=by omega
   have HE:Hid (dval 4294967296 o=dval 4294967296 p / 2^s):=by
    show _=_;have h3:=HV.out;rw[List.take_of_length_le (by rw[HOL.out];omega),hkp,shr_end HDp.out]at h3;exact h3
   clear hkp
   go_wp2_with fail
   obtain⟨a3,c3,e3,hrel⟩:=HO.out.slice;injection e3 with e3 e4 e5;subst e3 e5;rw[HOL.out]at hrel;have HR:=Lib.hid hrel;clear hrel e4;refine(norm_any o _ _ _ _ _ HR.out (by have:=HOL.out;omega)).mono ?_;rintro e w2 k2;have HN:=Lib.hid ((NatAns.of HE.out HX.out k2));obtain⟨a2,c2,rfl,_,_⟩:=k2;have HN2:=Lib.hid (HN.out.two true);clear HN
   go_wp2_with fail
   go_ret2
   exact HN2.out
theorem mulB{x y:Nat}(hx:x<4294967296)(hy:y<4294967296):0≤(x:Int)*y∧(x:Int)*y≤18446744065119617025:=by
 have h1:x*y≤4294967295*4294967295:=Nat.mul_le_mul (by omega) (by omega);have h2:(x:Int)*y=((x*y:Nat):Int):=(Int.natCast_mul x y).symm;rw[h2];omega
theorem castMul(c x y z:Nat):(c:Int)+((x:Int)*y+z)=((c+(x*y+z):Nat):Int):=by
 rw[Int.natCast_add,Int.natCast_add,Int.natCast_mul]
theorem mul_any(l m:List Nat)(a a':Option Addr)(n n' c c':Nat)(w:World)(h:Rp.lst.rel (Lt w.heap.size) w [.slice a n c] l)(h':Rp.lst.rel (Lt w.heap.size) w [.slice a' n' c'] m)(hl:l.length≤500000000)(hm:m.length≤500000000):
  Calls Tryz.prog 243 #[.slice a n c,.slice a' n' c'] w (NatAns (dval 4294967296 l*dval 4294967296 m) w):=by
 obtain⟨rfl,h1,h2⟩:=lst_len h;obtain⟨rfl,h1',h2'⟩:=lst_len h';have hpl:(limbs (dval 4294967296 l)).length≤l.length:=(digs_take_len (B:=4294967296) (by decide) (lst_dg h)).2;have hql:(limbs (dval 4294967296 m)).length≤m.length:=(digs_take_len (B:=4294967296) (by decide) (lst_dg h')).2;have H1:=Lib.hid h;clear h;have H2:=Lib.hid h';clear h'
 go_enter Tryz.func243,Tryz.ntmps243
 go_wp2_with fail
 refine(norm_any _ _ _ _ _ _ H1.out (by omega)).mono ?_;rintro e w1 ⟨b1,d1,rfl,hx1,hr1⟩;have HX1:=Lib.hid hx1;have H2':=Lib.hid ((Rp.slice _).below H2.out hx1 hx1.size);have HR1:=Lib.hid hr1;clear hx1 hr1
 go_wp2_with fail
 refine(norm_any _ _ _ _ _ _ H2'.out (by omega)).mono ?_;rintro e w2 ⟨b2,d2,rfl,hx2,hr2⟩;have HX2:=Lib.hid (HX1.out.tr hx2);have HR1':Hid (Rp.lst.rel (Lt w2.heap.size) w2 _ _):=Lib.hid ((Rp.slice _).keep HR1.out fun b hb=>⟨by have:=hx2.size;have:=hb.2;omega,hx2.block b hb.2⟩);have HR2:Hid (Rp.lst.rel (Lt w2.heap.size) w2 _ _):=Lib.hid ((Rp.slice _).mono hr2 fun b hb=>hb.2);have HVl:=Lib.hid (limbs_val (dval 4294967296 l));have HVm:=Lib.hid (limbs_val (dval 4294967296 m));clear HR1 H2' hx2 hr2 HX1 H1 H2;generalize hp:limbs (dval 4294967296 l)=p at*;generalize hq:limbs (dval 4294967296 m)=q at*;clear hp hq
 go_wp2_with (at_make;refine wp_makeZ oneU rfl _ _ _ rfl elemUZ 0 rfl (by omega) no w2.heap.size _ _ _ _ (p.length+q.length) (p.length+q.length) rfl rfl (by push_cast;rfl) (by push_cast;rfl) (by omega) (by omega) (by omega) (Nat.le_refl _) ?_)
 intro w0 hown0 hx0 hz0;have HX0:=Lib.hid hx0;have HO0:=Lib.hid hown0;clear hown0 hx0
 go_wp2
 go_loopw [23] (fun si wr=>∃ k:Nat,k≤p.length∧si= .int .i64 k∧∃ (o:List Nat),Hid (o.length=p.length+q.length)∧Hid (dval 4294967296 (o.take (k+q.length))=dval 4294967296 (p.take k)*dval 4294967296 q)∧Hid (OwnL Rp.u32 no w2.heap.size 225 wr (.slice (some ⟨w2.heap.size,0,none⟩) (p.length+q.length) (p.length+q.length)) o)∧Hid (Ext w2 wr)) (fun si _=>p.length-(intOf si).toNat)
 case atStart=>exact⟨0,Nat.zero_le _,rfl,_,by simp[Hid],by simp[Hid,List.take_replicate,dval_zeros],HO0.out,HX0.out⟩
 case round=>
  obtain⟨k,hk,rfl,o,HOL,HV,HO,HX⟩:=hrel;by_cases hlt:k<p.length
  ·obtain⟨b,ob,rfl,_,g1,hok1⟩:=oneU.get ((Rp.slice _).below HR1'.out HX.out HX.out.size) k hlt;unfold encU at g1;have HTK:=Lib.hid (dval_take_succ (B:=4294967296) hlt);generalize p[k]=u at*
   go_wp2
   obtain⟨wo,rfl⟩:∃ wo:World,wo=wr:=⟨_,rfl⟩
   go_loopw [8,30] (fun sc si wr=>∃ j:Nat,j≤q.length∧si= .int .i64 j∧∃ (o':List Nat) (cc:Nat),sc= .int .u64 cc∧cc<4294967296∧Hid (o'.length=p.length+q.length)∧Hid (dval 4294967296 (o'.take (k+q.length))+4294967296^(k+j)*cc=dval 4294967296 (p.take k)*dval 4294967296 q+4294967296^k*(u*dval 4294967296 (q.take j)))∧Hid (OwnL Rp.u32 no w2.heap.size 225 wr (.slice (some ⟨w2.heap.size,0,none⟩) (p.length+q.length) (p.length+q.length)) o')∧Hid (Ext w2 wr)) (fun _ si _=>q.length-(intOf si).toNat)
   case atStart=>exact⟨0,Nat.zero_le _,rfl,o,0,rfl,by omega,HOL.out,by simpa[Hid] using HV.out,HO.out,HX.out⟩
   case round=>
    obtain⟨j,hj,rfl,o',cc,rfl,hcc,HOL',HV',HO',HX'⟩:=hrel;by_cases hjl:j<q.length
    ·obtain⟨b',ob',rfl,_,g2,hok2⟩:=oneU.get ((Rp.slice _).below HR2.out HX'.out HX'.out.size) j hjl;obtain⟨g3,g4⟩:=oneU.cell HO'.out (k+j) (by have:=HOL'.out;omega);have hok3:o'[k+j]'(by have:=HOL'.out;omega)<4294967296:=oneU.okAll HO'.out _ (List.getElem_mem _);unfold encU at g2 g3;have HST:=Lib.hid (fun v z hv hz=>(mulU_step (u:=u) (v:=v) (z:=z) (show k+j<k+q.length by omega) (by rw[HOL'.out];omega) hz HV'.out).trans (hv▸(mulU_inner.trans (by rw[dval_take_succ hjl]))):∀ v z,q[j]=v→(∀h:k+j<o'.length,o'[k+j]=z)→dval 4294967296 ((o'.set (k+j) ((cc+(u*v+z)) % 4294967296)).take (k+q.length))+4294967296^(k+j+1)*((cc+(u*v+z)) / 4294967296)=dval 4294967296 (p.take k)*dval 4294967296 q+4294967296^k*(u*dval 4294967296 (q.take (j+1))));generalize hv:q[j]=v at*;generalize hz:o'[k+j]'(by have:=HOL'.out;omega)=z at*;have HST2:=Lib.hid (HST.out v z rfl (fun _=>hz));clear hv hz;have hb:=mulB hok1 hok2;have hft:=mul_fits hcc hok1 hok2 hok3;have hcm:=castMul cc u v z;obtain⟨s1,s2⟩:=storeU HO'.out (k+j) ((cc+(u*v+z)) % 4294967296) (z:=((cc+(u*v+z):Nat):Int) % 4294967296) (by omega) (Nat.mod_lt _ (by decide));have HO2:=Lib.hid s1;have HX2:=Lib.hid (HX'.out.trans s2);clear s1 s2;have hdl:(cc+(u*v+z)) / 4294967296<4294967296:=Nat.div_lt_of_lt_mul hft;generalize cc+(u*v+z)=N at*
     go_wp2
     go_roundw
     case rel=>exact⟨j+1,by omega,by go_num,_,N / 4294967296,by go_num,hdl,by rw[Hid,List.length_set];exact HOL'.out,HST2.out,HO2.out,HX2.out⟩
     case measure=>simp[intOf];omega
    ·have hjq:j=q.length:=by omega
     obtain⟨g3,g4⟩:=oneU.cell HO'.out (k+q.length) (by have:=HOL'.out;omega);unfold encU at g3;have HE:Hid (dval 4294967296 ((o'.set (k+q.length) cc).take (k+1+q.length))=dval 4294967296 (p.take (k+1))*dval 4294967296 q):=by
      show _=_;rw[HTK.out];refine mulU_outer (by rw[HOL'.out];omega) ?_;have h3:=HV'.out;rw[hjq,List.take_of_length_le (l:=q) (Nat.le_refl _)]at h3;exact h3
     obtain⟨s1,s2⟩:=storeU HO'.out (k+q.length) cc (z:=cc) rfl hcc;have HO2:=Lib.hid s1;have HX2:=Lib.hid (HX'.out.trans s2);clear s1 s2 hjq
     go_wp2
     go_roundw
     case rel=>exact⟨k+1,by omega,by go_num,_,by rw[Hid,List.length_set];exact HOL'.out,HE.out,HO2.out,HX2.out⟩
     case measure=>simp[intOf];omega
  ·have hkp:k=p.length:=by omega
   have HE:Hid (dval 4294967296 o=dval 4294967296 l*dval 4294967296 m):=by
    show _=_;have h3:=HV.out;rw[hkp,List.take_of_length_le (l:=p) (Nat.le_refl _),List.take_of_length_le (by rw[HOL.out];omega),HVl.out,HVm.out]at h3;exact h3
   clear hkp
   go_wp2_with fail
   obtain⟨a3,c3,e3,hrel⟩:=HO.out.slice;injection e3 with e3 e4 e5;subst e3 e5;rw[HOL.out]at hrel;have HR:=Lib.hid hrel;clear hrel e4;refine(norm_any o _ _ _ _ _ HR.out (by have:=HOL.out;omega)).mono ?_;rintro e w3 k2;have HN:=Lib.hid (NatAns.of HE.out (HX2.out.tr HX.out) k2);obtain⟨a2,c2,rfl,_,_⟩:=k2
   go_wp2_with fail
   go_ret
   exact HN.out
theorem or_32b{u v:Nat}(hu:u<4294967296)(hv:v<4294967296):Go.bits .or .u64 ((v:Int)*4294967296) (u:Int)=((v*4294967296+u:Nat):Int):=by
 have h2:(v:Int)*4294967296=((v*2^32:Nat):Int):=by rw[Int.natCast_mul];rfl
 rw[h2,bits_or_u64_nat _ _ (by omega) (by omega),Nat.or_comm,or_disj 32 u v hu,Nat.add_comm]
theorem castDiv(N d:Nat):((N:Int) / d)=((N / d:Nat):Int):=by rw[Int.natCast_ediv]
theorem castMod(N d:Nat):((N:Int) % d)=((N % d:Nat):Int):=by rw[Int.natCast_emod]
theorem divword_any(p:List Nat)(d:Nat)(a:Option Addr)(n c:Nat)(w:World)(h:Rp.lst.rel (Lt w.heap.size) w [.slice a n c] p)(hp:p.length≤500000000)(hd0:0<d)(hd:d<4294967296):
  Calls Tryz.prog 253 #[.slice a n c,.int .u32 d] w fun e w'=>∃ a c,e= .returned (.tuple #[.slice a (limbs (dval 4294967296 p / d)).length c,.int .u32 ((dval 4294967296 p % d:Nat):Int),.bool true])∧Ext w w'∧Rp.lst.rel (Mo no w.heap.size w') w' [.slice a (limbs (dval 4294967296 p / d)).length c] (limbs (dval 4294967296 p / d)):=by
 obtain⟨rfl,h1,h2⟩:=lst_len h;have H1:=Lib.hid h;clear h;have hdb:((d:Int)==0)=false:=by rw[beq_eq_false_iff_ne];omega
 go_enter Tryz.func253,Tryz.ntmps253
 go_wp2_with (at_make;refine wp_makeZ oneU rfl _ _ _ rfl elemUZ 0 rfl (by omega) no w.heap.size _ _ _ _ p.length p.length rfl rfl rfl rfl (by omega) (by omega) (by omega) (Nat.le_refl _) ?_)
 intro w0 hown0 hx0 hz0;have HX0:=Lib.hid hx0;have HO0:=Lib.hid hown0;clear hown0 hx0
 go_wp2
 go_loopw [8,9] (fun sr si wr=>∃ k:Nat,k≤p.length∧si= .int .i64 ((k:Int)-1)∧∃ (o:List Nat) (r:Nat),sr= .int .u64 r∧r<d∧Hid (o.length=p.length)∧Hid (dval 4294967296 (p.drop k)=dval 4294967296 (o.drop k)*d+r)∧Hid (OwnL Rp.u32 no w.heap.size 225 wr (.slice (some ⟨w.heap.size,0,none⟩) p.length p.length) o)∧Hid (Ext w wr)) (fun _ si _=>(intOf si+1).toNat)
 case atStart=>exact⟨p.length,Nat.le_refl _,rfl,_,0,rfl,hd0,by simp[Hid],by simp[Hid],HO0.out,HX0.out⟩
 case round=>
  obtain⟨k,hk,rfl,o,r,rfl,hr,HOL,HV,HO,HX⟩:=hrel;cases k with
  | zero=>
    have HE:=Lib.hid (div_unique HV.out hr)
    go_wp2_with fail
    obtain⟨a3,c3,e3,hrel⟩:=HO.out.slice;injection e3 with e3 e4 e5;subst e3 e5;rw[HOL.out]at hrel;have HR:=Lib.hid hrel;clear hrel e4;refine(norm_any o _ _ _ _ _ HR.out (by have:=HOL.out;omega)).mono ?_;rintro e w3 k2;have HN:=Lib.hid (NatAns.of HE.out.1 HX.out k2);obtain⟨a2,c2,rfl,_,_⟩:=k2;have hr2:r<4294967296:=by omega
    go_wp2_with fail
    go_ret3
    obtain⟨a',c',e,hx,hrr⟩:=HN.out;injection e with e;injection e with e1 e2 e3;subst e1 e3;refine⟨_,_,?_,hx,hrr⟩;have e6:r=dval 4294967296 p % d:=HE.out.2;rw[←e6];exact congrArg (fun m=>Ending.returned (.tuple #[.slice a2 m c2,.int .u32 r,.bool true])) e2
  | succ j=>
    obtain⟨b,ob,rfl,_,g1,hok1⟩:=oneU.get ((Rp.slice _).below H1.out HX.out HX.out.size) j (by omega);obtain⟨g3,g4⟩:=oneU.cell HO.out j (by have:=HOL.out;omega);unfold encU at g1 g3;have HPD:=Lib.hid (dval_drop (B:=4294967296) (l:=p) (i:=j) (by omega));have HOD:=Lib.hid (fun y=>dval_drop (B:=4294967296) (l:=o.set j y) (i:=j) (by rw[List.length_set];have:=HOL.out;omega));generalize p[j]=u at*;have hor:=or_32b hok1 (show r<4294967296 by omega);have HST:=Lib.hid (divw_step (B:=4294967296) (x:=u) HV.out);have HLT:=Lib.hid (divw_lt (B:=4294967296) (x:=u) hr hok1);have hN:r*4294967296+u<18446744073709551616:=by omega
    generalize r*4294967296+u=N at*;have hcd:=castDiv N d;have hcm:=castMod N d;have hml:N % d<d:=Nat.mod_lt _ hd0;generalize N / d=Q at*;generalize N % d=R at*;have hq:=HLT.out;have HS2:Hid (dval 4294967296 (p.drop j)=dval 4294967296 ((o.set j Q).drop j)*d+R):=by
     show _=_;rw[HPD.out,HST.out,HOD.out,List.getElem_set_self,List.drop_set_of_lt (by omega)]
    obtain⟨s1,s2⟩:=storeU HO.out j Q (z:=Q) rfl hq;have HO2:=Lib.hid s1;have HX2:=Lib.hid (HX.out.trans s2);clear s1 s2
    go_wp2
    go_roundw
    case rel=>exact⟨j,by omega,rfl,_,R,by rw[hcm],hml,by rw[Hid,List.length_set];exact HOL.out,HS2.out,HO2.out,HX2.out⟩
    case measure=>simp[intOf]
theorem mulOwed{g w o:Nat}(hg:g<4294967296)(hw:w<4294967296)(ho:o≤g):0≤(g:Int)*w∧(g:Int)*w≤18446744065119617025∧((g:Int)*w+o)=((g*w+o:Nat):Int)∧g*w+o<18446744073709551616:=by
 obtain⟨h1,h2⟩:=mulB hg hw;have h3:(g:Int)*w=((g*w:Nat):Int):=(Int.natCast_mul g w).symm;refine⟨h1,h2,by rw[h3];omega,?_⟩;rw[h3]at h2;omega
def TakeAns(xs q:List Nat)(g j g0 N cap n0:Nat)(w:World):Ending→World→Prop:=fun e w'=>∃ (xs':List Nat) (b:Bool),e= .returned (.bool b)∧OwnL Rp.u32 no n0 225 w' (.slice (some ⟨g0,0,none⟩) N cap) xs'∧Upd w w' (.slice (some ⟨g0,0,none⟩) N cap) (.slice (some ⟨g0,0,none⟩) N cap)∧Out xs xs' j (q.length+1)∧
 (b=true→win xs j (q.length+1)<g*dval 4294967296 q∧win xs' j (q.length+1)+g*dval 4294967296 q=win xs j (q.length+1)+4294967296^(q.length+1))∧
 (b=false→win xs' j (q.length+1)+g*dval 4294967296 q=win xs j (q.length+1))
theorem Upd.setC{w w':World}{g N cap:Nat}(h:Upd w w' (.slice (some ⟨g,0,none⟩) N cap) (.slice (some ⟨g,0,none⟩) N cap))(i:Nat)(v:Value):Upd w (w'.setCell ⟨g,i,none⟩ v) (.slice (some ⟨g,0,none⟩) N cap) (.slice (some ⟨g,0,none⟩) N cap):=
 h.tr ⟨rfl,rfl,rfl,by simp[World.setCell],fun k _ hne=>Below.heap_setCell _ _ _ _ (fun e=>hne (by simp[Value.ownBlock,e])),fun _ hg=> .inl hg⟩
theorem take_any(xs q:List Nat)(g j g0 N cap n0 cu c':Nat)(a':Option Addr)(w:World)(S:Nat→Prop)(hS:∀ b,S b→b<w.heap.size∧b≠g0)(h:OwnL Rp.u32 no n0 225 w (.slice (some ⟨g0,0,none⟩) N cap) xs)(h':Rp.lst.rel S w [.slice a' q.length c'] q)
  (hj:j+q.length+1≤xs.length) (hg:g<4294967296) (_hx:xs.length≤1000000000):
  Calls Tryz.prog 319 #[.slice (some ⟨g0,j,none⟩) (q.length+1) cu,.slice a' q.length c',.int .u64 g] w (TakeAns xs q g j g0 N cap n0 w):=by
 obtain⟨_,h1,h2⟩:=lst_len h';have H1:=Lib.hid h;clear h;have H2:=Lib.hid h';clear h';have HS:=Lib.hid hS;clear hS;have HDq:=Lib.hid (lst_dg H2.out)
 go_enter Tryz.func319,Tryz.ntmps319
 go_wp2
 go_loopw [7,14] (fun so si wr=>∃ k:Nat,k≤q.length∧si= .int .i64 k∧∃ (xs':List Nat) (ow:Nat),so= .int .u64 ow∧ow≤g∧Hid (Out xs xs' j k)∧Hid (win xs' j k+g*dval 4294967296 (q.take k)=win xs j k+4294967296^k*ow)∧Hid (OwnL Rp.u32 no n0 225 wr (.slice (some ⟨g0,0,none⟩) N cap) xs')∧Hid (Upd w wr (.slice (some ⟨g0,0,none⟩) N cap) (.slice (some ⟨g0,0,none⟩) N cap))) (fun _ si _=>q.length-(intOf si).toNat)
 case atStart=>exact⟨0,Nat.zero_le _,rfl,xs,0,rfl,Nat.zero_le _,Out.refl _ _ _,by simp[Hid,win_zero],H1.out,Upd.refl _ _⟩
 case round=>
  obtain⟨k,hk,rfl,xs',ow,rfl,how,HOUT,HV,HO,HU⟩:=hrel;have hlen:xs'.length=xs.length:=HOUT.out.1;have HL:=Lib.hid hlen;have hjk:j+k<xs'.length:=by omega
  obtain⟨g3,g4⟩:=oneU.cell HO.out (j+k) hjk;have hok3:xs'[j+k]<4294967296:=oneU.okAll HO.out _ (List.getElem_mem _);have HX:=Lib.hid (HOUT.out.get (q:=j+k) (.inr (by omega)) (by omega));have HWS:=Lib.hid (win_succ (xs:=xs) (j:=j) (i:=k) (by omega));unfold encU at g3;rw[←HX.out]at HWS;generalize xs'[j+k]=x at*;clear HX hlen;by_cases hlt:k<q.length
  ·have h2k:=(Rp.slice _).keep H2.out (S':=S) (w':=wr) fun b hb=>⟨hb,HU.out.block b (HS.out b hb).1 (fun e=>(HS.out b hb).2 (by simpa[Value.ownBlock] using e.symm))⟩
   obtain⟨b',ob',rfl,_,g2,hok2⟩:=oneU.get h2k k hlt;unfold encU at g2;clear h2k;have HQS:=Lib.hid (dval_take_succ (B:=4294967296) hlt);generalize q[k]=v at*;have HST:=take_step (B:=4294967296) (P:=4294967296^k) (x:=x) (w:=v) (by decide) HV.out hok3;obtain⟨m1,m2,m3,m4⟩:=mulOwed hg hok2 how;have HW2:∀ y,win (xs'.set (j+k) y) j (k+1)=win xs' j k+4294967296^k*y:=by
    intro y;rw[win_succ (by rw[List.length_set];exact hjk),win_set (Nat.le_refl _),List.getElem_set_self]
   rw[←HW2,←HQS.out,←HWS.out,←Nat.pow_succ]at HST;have HLE:=owed_le HST (by
    have:=win_lt (xs:=xs'.set (j+k) ((x+4294967296-(g*v+ow) % 4294967296) % 4294967296)) (Dg.set (oneU.okAll HO.out) (Nat.mod_lt _ (by decide))) j (k+1);exact this) (by
    have:=dval_lt (HDq.out.take (k+1));rw[List.length_take,Nat.min_eq_left (by omega)]at this;exact this)
   have HLE:=Lib.hid HLE;have HST:=Lib.hid HST;clear HW2;generalize g*v+ow=M at*;by_cases hc:x<M % 4294967296
   ·have hst:=HST.out;have hle:=HLE.out;rw[if_pos hc]at hst hle;have HST2:=Lib.hid hst;clear hst;obtain⟨s1,_⟩:=storeU HO.out (j+k) ((x+4294967296-M % 4294967296) % 4294967296) (z:=((x:Int)-(M:Int)) % 4294967296) (by omega) (Nat.mod_lt _ (by decide));have HO2:=Lib.hid s1;clear s1
    go_wp2
    go_roundw
    case rel=>exact⟨k+1,by omega,by go_num,_,M / 4294967296+1,by go_num,hle,HOUT.out.set,HST2.out,HO2.out,HU.out.setC _ _⟩
    case measure=>simp[intOf];omega
   ·have hst:=HST.out;have hle:=HLE.out;rw[if_neg hc,Nat.add_zero]at hst hle;have HST2:=Lib.hid hst;clear hst;obtain⟨s1,_⟩:=storeU HO.out (j+k) ((x+4294967296-M % 4294967296) % 4294967296) (z:=((x:Int)-(M:Int) % 4294967296)) (by omega) (Nat.mod_lt _ (by decide));have HO2:=Lib.hid s1;clear s1
    go_wp2
    go_roundw
    case rel=>exact⟨k+1,by omega,by go_num,_,M / 4294967296,by go_num,hle,HOUT.out.set,HST2.out,HO2.out,HU.out.setC _ _⟩
    case measure=>simp[intOf];omega
  ·have hkq:k=q.length:=by omega
   have hv:=HV.out;have hws:=HWS.out;have hout:=HOUT.out;rw[hkq,List.take_of_length_le (l:=q) (Nat.le_refl _)]at hv;rw[hkq]at hws hout hjk;have htl:=take_last (B:=4294967296) (last:=x) (by decide) hv (win_lt (oneU.okAll HO.out) j q.length) (by omega) hok3;have HW2:win (xs'.set (j+q.length) ((x+4294967296-ow % 4294967296) % 4294967296)) j (q.length+1)=win xs' j q.length+4294967296^q.length*((x+4294967296-ow % 4294967296) % 4294967296):=by
    rw[win_succ (by rw[List.length_set];exact hjk),win_set (Nat.le_refl _),List.getElem_set_self]
   rw[←HW2,←hws,←Nat.pow_succ]at htl;have HTL:=Lib.hid htl;have HOT:=Lib.hid (hout.set (y:=(x+4294967296-ow % 4294967296) % 4294967296));rw[hkq]at g3 g4;clear hv hws hout htl HW2 hkq HV HWS HOUT;by_cases hc:x<ow
   ·obtain⟨s1,_⟩:=storeU HO.out (j+q.length) ((x+4294967296-ow % 4294967296) % 4294967296) (z:=((x:Int)-(ow:Int)) % 4294967296) (by omega) (Nat.mod_lt _ (by decide));have HO2:=Lib.hid s1;clear s1
    go_wp2
    go_ret
    exact⟨_,true,by simp,HO2.out,HU.out.setC _ _,HOT.out,fun _=>HTL.out.1 hc,fun h=>by cases h⟩
   ·obtain⟨s1,_⟩:=storeU HO.out (j+q.length) ((x+4294967296-ow % 4294967296) % 4294967296) (z:=((x:Int)-(ow:Int))) (by omega) (Nat.mod_lt _ (by decide));have HO2:=Lib.hid s1;clear s1
    go_wp2
    go_ret
    exact⟨_,false,by simp,HO2.out,HU.out.setC _ _,HOT.out,fun h=>(by cases h),fun _=>HTL.out.2 hc⟩
theorem give_end{P B u S V x c:Nat}(h:u+P*c=S+V)(hu:u<P)(hB:0<B):u+P*((x+c) % B)=(S+P*x+V) % (P*B):=by
 have h1:S+P*x+V=u+P*(x+c):=by rw[Nat.mul_add];omega
 rw[h1];have h2:=Nat.mod_add_div (x+c) B;have h3:u+P*(x+c)=(u+P*((x+c) % B))+P*B*((x+c) / B):=by
  rw[Nat.mul_assoc,Nat.add_assoc,←Nat.mul_add,h2]
 rw[h3,Nat.add_mul_mod_self_left];refine(Nat.mod_eq_of_lt ?_).symm;have h4:P*((x+c) % B+1)≤P*B:=Nat.mul_le_mul_left _ (Nat.mod_lt _ hB);rw[Nat.mul_add]at h4;omega
def GiveAns(xs q:List Nat)(j g0 N cap n0:Nat)(w:World):Ending→World→Prop:=fun e w'=>∃ (xs':List Nat),e= .returned (.tuple #[])∧OwnL Rp.u32 no n0 225 w' (.slice (some ⟨g0,0,none⟩) N cap) xs'∧Upd w w' (.slice (some ⟨g0,0,none⟩) N cap) (.slice (some ⟨g0,0,none⟩) N cap)∧Out xs xs' j (q.length+1)∧
 win xs' j (q.length+1)=(win xs j (q.length+1)+dval 4294967296 q) % 4294967296^(q.length+1)
theorem give_any(xs q:List Nat)(j g0 N cap n0 cu c':Nat)(a':Option Addr)(w:World)(S:Nat→Prop)(hS:∀ b,S b→b<w.heap.size∧b≠g0)(h:OwnL Rp.u32 no n0 225 w (.slice (some ⟨g0,0,none⟩) N cap) xs)(h':Rp.lst.rel S w [.slice a' q.length c'] q)
  (hj:j+q.length+1≤xs.length):
  Calls Tryz.prog 320 #[.slice (some ⟨g0,j,none⟩) (q.length+1) cu,.slice a' q.length c'] w (GiveAns xs q j g0 N cap n0 w):=by
 obtain⟨_,h1,h2⟩:=lst_len h';have H1:=Lib.hid h;clear h;have H2:=Lib.hid h';clear h';have HS:=Lib.hid hS;clear hS
 go_enter Tryz.func320,Tryz.ntmps320
 go_wp2
 go_loopw [4,9] (fun so si wr=>∃ k:Nat,k≤q.length∧si= .int .i64 k∧∃ (xs':List Nat) (cc:Nat),so= .int .u64 cc∧cc≤1∧Hid (Out xs xs' j k)∧Hid (win xs' j k+4294967296^k*cc=win xs j k+dval 4294967296 (q.take k))∧Hid (OwnL Rp.u32 no n0 225 wr (.slice (some ⟨g0,0,none⟩) N cap) xs')∧Hid (Upd w wr (.slice (some ⟨g0,0,none⟩) N cap) (.slice (some ⟨g0,0,none⟩) N cap))) (fun _ si _=>q.length-(intOf si).toNat)
 case atStart=>exact⟨0,Nat.zero_le _,rfl,xs,0,rfl,by omega,Out.refl _ _ _,by simp[Hid,win_zero],H1.out,Upd.refl _ _⟩
 case round=>
  obtain⟨k,hk,rfl,xs',cc,rfl,hcc,HOUT,HV,HO,HU⟩:=hrel;have hlen:xs'.length=xs.length:=HOUT.out.1;have hjk:j+k<xs'.length:=by omega
  obtain⟨g3,g4⟩:=oneU.cell HO.out (j+k) hjk;have hok3:xs'[j+k]<4294967296:=oneU.okAll HO.out _ (List.getElem_mem _);have HX:=Lib.hid (HOUT.out.get (q:=j+k) (.inr (by omega)) (by omega));have HWS:=Lib.hid (win_succ (xs:=xs) (j:=j) (i:=k) (by omega));unfold encU at g3;rw[←HX.out]at HWS;generalize xs'[j+k]=x at*;clear HX hlen;by_cases hlt:k<q.length
  ·have h2k:=(Rp.slice _).keep H2.out (S':=S) (w':=wr) fun b hb=>⟨hb,HU.out.block b (HS.out b hb).1 (fun e=>(HS.out b hb).2 (by simpa[Value.ownBlock] using e.symm))⟩
   obtain⟨b',ob',rfl,_,g2,hok2⟩:=oneU.get h2k k hlt;unfold encU at g2;clear h2k;have HQS:=Lib.hid (dval_take_succ (B:=4294967296) hlt);generalize q[k]=v at*;have HST:=give_step (B:=4294967296) (P:=4294967296^k) (x:=x) (w:=v) HV.out;have HW2:∀ y,win (xs'.set (j+k) y) j (k+1)=win xs' j k+4294967296^k*y:=by
    intro y;rw[win_succ (by rw[List.length_set];exact hjk),win_set (Nat.le_refl _),List.getElem_set_self]
   rw[←HW2,←HQS.out,←HWS.out,←Nat.pow_succ]at HST;have HST2:=Lib.hid HST;clear HW2 HST;have hdl:(cc+(x+v)) / 4294967296≤1:=by omega
   obtain⟨s1,_⟩:=storeU HO.out (j+k) ((cc+(x+v)) % 4294967296) (z:=((cc:Int)+((x:Int)+(v:Int))) % 4294967296) (by omega) (Nat.mod_lt _ (by decide));have HO2:=Lib.hid s1;clear s1
   go_wp2
   go_roundw
   case rel=>exact⟨k+1,by omega,by go_num,_,(cc+(x+v)) / 4294967296,by go_num,hdl,HOUT.out.set,HST2.out,HO2.out,HU.out.setC _ _⟩
   case measure=>simp[intOf];omega
  ·have hkq:k=q.length:=by omega
   have hv:=HV.out;have hws:=HWS.out;have hout:=HOUT.out;rw[hkq,List.take_of_length_le (l:=q) (Nat.le_refl _)]at hv;rw[hkq]at hws hout hjk;have htl:=give_end (B:=4294967296) (x:=x) hv (win_lt (oneU.okAll HO.out) j q.length) (by decide);have HW2:win (xs'.set (j+q.length) ((x+cc) % 4294967296)) j (q.length+1)=win xs' j q.length+4294967296^q.length*((x+cc) % 4294967296):=by
    rw[win_succ (by rw[List.length_set];exact hjk),win_set (Nat.le_refl _),List.getElem_set_self]
   rw[←HW2,←hws,←Nat.pow_succ]at htl;have HTL:=Lib.hid htl;have HOT:=Lib.hid (hout.set (y:=(x+cc) % 4294967296));rw[hkq]at g3 g4;clear hv hws hout htl HW2 hkq HV HWS HOUT;obtain⟨s1,_⟩:=storeU HO.out (j+q.length) ((x+cc) % 4294967296) (z:=((x:Int)+(cc:Int)) % 4294967296) (by omega) (Nat.mod_lt _ (by decide));have HO2:=Lib.hid s1;clear s1
   go_wp2
   go_end0
   exact⟨_,rfl,HO2.out,HU.out.setC _ _,HOT.out,HTL.out⟩
end Go.Proofs.YtbbpecfapohlaaaGreatDoor
