import Derived.Test.YtbbpecfapohlaaaGreatDoorPrD
namespace Go.Proofs.YtbbpecfapohlaaaGreatDoor
open Go.RowKit
theorem flat_by:∀ l:List UInt8,(l.map fun c=>[Value.int .u8 (c.toNat:Int)]).flatten=byteV l
 | []=>rfl
 | c::r=>by
   rw[List.map_cons,List.flatten_cons,flat_by r]
   rfl
section
variable {P:Program}{C:Cx}{o:Oper}{σ:AS}
theorem Do.appendS{s x:Operand}{T T':TypeId}{id g d:Nat}{e:TypeId}{bytes:Nat}{xs:List (List D)}{l:List UInt8}(ho:o.op= .call {callee:= .builtin .append,args:= #[s,x],argTypes:= #[T,T'] })(hd:o.dst=some d)(hs:ev σ s= .r id g)(hO:get? σ.objs id=some (.row g e 1 xs))(hx:ev σ x= .d (.v (.string (tx l))))
  (hT:P.underlying T'=some .string) [h:Sl P T e 1 bytes] (hb:(xs.length+l.length)*bytes≤140737488355328):
  Do P C o σ (.r id (g+1)) ⟨[id],[],[(id,.row (g+1) e 1 (xs++l.map enBy))],none⟩:=by
 intro σ' hl hdst a w K Q' ⟨β,hi⟩ hK
 have hs1:=hl.ra hi (x:=s) (by rw[ho];simp[Op.operands,Call.operands])
 rw[hs]at hs1
 replace hO:get? σ'.objs id=some (.row g e 1 xs):=by rw[hl.rd id (by simp)];exact hO
 have hx1:=hl.ra hi (x:=x) (by rw[ho];simp[Op.operands,Call.operands])
 rw[hx]at hx1
 have hxe:=RA.val hx1
 have hu:=(hs1 g e 1 xs hO).2 rfl
 obtain⟨css,h1,h2,h3,hown⟩:=hi.obj id _ hO
 have q1:(l.map fun c=>[Value.int .u8 (c.toNat:Int)]).length=(l.map enBy).length:=by simp
 have q2:∀ (S:Nat→Prop) (w:World) i (h:i<(l.map fun c=>[Value.int .u8 (c.toNat:Int)]).length) (h':i<(l.map enBy).length),RDs S w (l.map fun c=>[Value.int .u8 (c.toNat:Int)])[i] (l.map enBy)[i]:=fun S w i h h'=>by
  rw[List.getElem_map,List.getElem_map]
  exact .cons (.v rfl) .nil
 have hk:∀ y∈l.map enBy,y.length=1:=fun y hy=>by
  obtain⟨c,_,rfl⟩:=List.mem_map.1 hy
  rfl
 have hfl:(l.map fun c=>[Value.int .u8 (c.toNat:Int)]).flatten=byteCells (tx l):=flat_by l
 obtain⟨i,z,hinf,hz,hsize,hby,hzs⟩:=h.e.info
 have hlen63:xs.length+l.length≤9223372036854775807:=by
  have:=Nat.le_mul_of_pos_right (xs.length+l.length) h.e.pos
  omega
 obtain⟨v',w',hr,r1,r2,r3⟩:=append_own_src (P:=P) w 0 T T' o.type e i z 1 bytes h.e.under hinf hz hsize hby hzs (β id) xs.length css.flatten hown _ l.length (byteCells (tx l)) (Src.ofString _ hT (tx l)) hlen63 hb (Nat.zero_le _)
 have hblk:=blk_own hown
 have hblk':=blk_own r1
 unfold Oper.wp
 rw[exec_append ho hu hxe hr]
 refine hK _ _ ⟨bset β id v',?_⟩
 rw[hd]
 have:=Inv.put (hi.upd (w':=w') id (.row g e 1 xs) (.row (g+1) e 1 (xs++l.map enBy)) hO v' r2.os r2.tape r2.output r2.size (fun k hk hne=>r2.block k hk fun e=>hne (by rw[hblk,←e])) (fun b hb=>?_) ⟨by omega,fun h=>absurd h (by omega)⟩ (fun hD _=>?_)) (some d) (fun t ht=>by cases ht;exact dstOK.out hdst d hd) (v:= .r id (g+1)) (u:=v') ?_
 ·exact this
 ·rw[hblk']at hb
  have hlt:=r1.lt b hb
  refine⟨?_,hlt.2⟩
  rcases r3 b hb with h4 | h4
  ·left;rw[hblk];exact h4
  ·right;omega
 ·refine RO.grown (id:=id) (ys:=l.map enBy) h1 h2 h3 q1 (q2 _ w) hk hD ?_
  rw[hfl,List.length_map]
  simpa only[bset,if_true] using r1
 ·intro g' e2 k2 xs2 h4
  rw[get?_cons,if_pos rfl]at h4
  cases h4
  exact⟨Nat.le_refl _,fun _=>by simp[bset]⟩
end
mutual
def putX:ST→List UInt8
 | .mk b w l=>if b=true then w else 40::(putXs l++[41])
def putXs:List ST→List UInt8
 | []=>[]
 | s::r=>putX s++tlX r
def tlX:List ST→List UInt8
 | []=>[]
 | s::r=>32::(putX s++tlX r)
end
theorem putX_l(w:List UInt8)(l:List ST):putX (.mk false w l)=40::(putXs l++[41]):=by
 rw[putX]
 exact if_neg (by decide)
theorem putX_t(w:List UInt8)(l:List ST):putX (.mk true w l)=w:=by
 rw[putX]
 exact if_pos rfl
attribute [local irreducible] AC Do St
theorem tlX_app:∀ a b:List ST,tlX (a++b)=tlX a++tlX b
 | [],b=>rfl
 | s::r,b=>by
   show 32::(putX s++tlX (r++b))=_
   rw[tlX_app r b,tlX]
   simp
theorem putXs_app(a b:List ST)(h:a≠[]):putXs (a++b)=putXs a++tlX b:=by
 match a,h with
 | s::r,_=>
   show putX s++tlX (r++b)=_
   rw[tlX_app,putXs]
   simp
theorem putXs_len(l:List ST)(i:Nat):(putXs (l.take i)).length≤(putXs l).length:=by
 by_cases h:l.take i=[]
 ·rw[h]
  simp[putXs]
 ·have e:=putXs_app (l.take i) (l.drop i) h
  rw[List.take_append_drop]at e
  rw[e]
  simp
theorem putXs_zero{l:List ST}(h:0<l.length):putXs (l.take (0+1))=putX l[0]:=by
 match l,h with
 | s::r,_=>
   show putX s++tlX []=putX s
   rw[tlX,List.append_nil]
theorem putXs_step{l:List ST}{i:Nat}(h:i<l.length)(h0:0<i):putXs (l.take (i+1))=putXs (l.take i)++[32]++putX l[i]:=by
 rw[List.take_succ_eq_append_getElem h,putXs_app _ _ (fun e=>by
  have h3:(l.take i).length=i:=by rw[List.length_take];omega
  rw[e]at h3
  simp at h3
  omega)]
 rw[tlX,tlX]
 simp
theorem byApp(T:List UInt8)(c:UInt8):T.map enBy++[[.v (.int .u8 (c.toNat:Int))]]=(T++[c]).map enBy:=by
 rw[List.map_append]
 rfl
theorem by40(T:List UInt8):T.map enBy++[List.map D.fg [.v (.int .u8 40)]]=(T++[40]).map enBy:=byApp T 40
theorem by41(T:List UInt8):T.map enBy++[List.map D.fg [.v (.int .u8 41)]]=(T++[41]).map enBy:=byApp T 41
theorem by32(T:List UInt8):T.map enBy++[List.map D.fg [.v (.int .u8 32)]]=(T++[32]).map enBy:=byApp T 32
theorem by10(T:List UInt8):T.map enBy++[List.map D.fg [.v (.int .u8 10)]]=(T++[10]).map enBy:=byApp T 10
noncomputable def szX (f:ST):Nat:=SizeOf.sizeOf f
theorem szX_lt{b:Bool}{w:List UInt8}{l:List ST}{f:ST}(h:f∈l):szX f<szX (.mk b w l):=by
 have:=List.sizeOf_lt_of_mem h
 unfold szX
 simp only[ST.mk.sizeOf_spec]
 omega
set_option maxRecDepth 100000 in
set_option maxHeartbeats 4000000 in
theorem putF:∀ (m:Nat) (s:ST),szX s<m→okX s→∀ (acc:List UInt8),acc.length+(putX s).length≤1000000000000→FnA Tryz.prog 115 5 1 (acc.map enBy) [.g (enX s)] ((acc++putX s).map enBy):=by
 intro m
 induction m with
 | zero=>intro f h;omega
 | succ m ih=>
 intro s hm hok acc hlen
 obtain⟨b,w,l⟩:=s
 have hsub:∀ g∈l,szX g<m:=fun g hg=>by have:=szX_lt (b:=b) (w:=w) hg;omega
 rw[okX]at hok
 obtain⟨ho0,ho1,ho2⟩:=hok
 have hsg:=okXs_mem ho2
 rw[enX_mk]
 have hma:(acc.map enBy).length=acc.length:=List.length_map ..
 cases b with
 | true=>
   rw[putX_t]at hlen ⊢
   refine FnA.of Tryz.func115 rfl (by kernel_rfl) Tryz.ntmps115 Tryz.results115 rfl fun w0 S0 v=>?_
   refine wk ?_
   ((try (first | intro K ms hms hK | intro K hK));(first | apply Chain.ef | apply Chain.efD);exact rfl;exact rfl;exact Do.appendS rfl rfl rfl rfl rfl (by kernel_rfl) (by rw[hma];omega);exact rfl;exact rfl)
   refine wk ?_
   exact⟨4,_,rfl,rfl,by rw[List.map_append];rfl⟩
 | false=>
   rw[putX_l]at hlen ⊢
   simp only[List.length_cons,List.length_append,List.length_nil]at hlen
   refine FnA.of Tryz.func115 rfl (by kernel_rfl) Tryz.ntmps115 Tryz.results115 rfl fun w0 S0 v=>?_
   refine wk ?_
   rw[by40]
   refine AC.loop (X:=Nat×Nat) (fun x=>⟨[(0,.r 36 x.2),(17,.d (.l (l.map enX))),(18,.d (.v (.int .i64 (l.length:Int)))),(19,.d (.v (.int .i64 (x.1:Int))))],[(36,.row x.2 5 1 ((acc++[40]++putXs (l.take x.1)).map enBy))]⟩) (fun x=>x.1≤l.length) (fun x=>l.length-x.1) (0,1) (Nat.zero_le _) ⟨rfl,rfl,rfl,rfl,trivial⟩ ⟨by dsimp only;rw[show putXs (l.take 0)=[]from rfl,List.append_nil];rfl,trivial⟩ ?_
   intro ⟨i,g⟩ hi
   dsimp only at hi ⊢
   have hpl:=putXs_len l i
   have hml:((acc++[40]++putXs (l.take i)).map enBy).length=acc.length+1+(putXs (l.take i)).length:=by simp;omega
   refine wk ?_
   refine s1 (fun g1=>?_) (fun g1=>?_)
   ·have hi1:i<l.length:=by omega
    have hx:l[i]?=some l[i]:=List.getElem?_eq_getElem hi1
    have hgm:=List.getElem_mem hi1
    have hpl2:=putXs_len l (i+1)
    by_cases h0:i=0
    ·subst h0
     have he:=putXs_zero (l:=l) hi1
     generalize l[0]=e at hx hgm he
     rw[he]at hpl2
     have hf:=ih e (hsub e hgm) (hsg e hgm) (acc++[40]++putXs (l.take 0)) (by rw[show putXs (l.take 0)=[]from rfl];simp;omega)
     refine wk ?_
     ((try (first | intro K ms hms hK | intro K hK));(first | apply Chain.ef | apply Chain.efD);exact rfl;exact rfl;(refine Do.callA (hf) rfl rfl rfl ?_;(repeat (first | exact trivial | refine⟨.inl rfl,?_⟩ | refine⟨.inr rfl,?_⟩)));exact rfl;exact rfl)
     refine wk ?_
     exact⟨(0+1,_),hi1,by dsimp only;omega,⟨rfl,rfl,rfl,rfl,trivial⟩,⟨by dsimp only;rw[he,show putXs (l.take 0)=[]from rfl,List.append_nil];rfl,trivial⟩⟩
    ·have he:=putXs_step (l:=l) hi1 (by omega)
     generalize l[i]=e at hx hgm he
     rw[he]at hpl2
     simp only[List.length_append,List.length_cons,List.length_nil]at hpl2
     have hf:=ih e (hsub e hgm) (hsg e hgm) (acc++[40]++putXs (l.take i)++[32]) (by simp;omega)
     refine wk ?_
     rw[by32]
     ((try (first | intro K ms hms hK | intro K hK));(first | apply Chain.ef | apply Chain.efD);exact rfl;exact rfl;(refine Do.callA (hf) rfl rfl rfl ?_;(repeat (first | exact trivial | refine⟨.inl rfl,?_⟩ | refine⟨.inr rfl,?_⟩)));exact rfl;exact rfl)
     refine wk ?_
     exact⟨(i+1,_),hi1,by dsimp only;omega,⟨rfl,rfl,rfl,rfl,trivial⟩,⟨by dsimp only;rw[he];simp only[List.append_assoc];rfl,trivial⟩⟩
   ·obtain rfl:i=l.length:=by omega
    rw[List.take_length]at hml ⊢
    refine wk ?_
    rw[by41]
    exact⟨4,_,rfl,rfl,by simp;rfl⟩
def allX(s:List ST):List UInt8:=s.flatMap fun t=>putX t++[10]
theorem allX_take{s:List ST}{i:Nat}(h:i<s.length):allX (s.take (i+1))=allX (s.take i)++putX s[i]++[10]:=by
 rw[List.take_succ_eq_append_getElem h]
 unfold allX
 rw[List.flatMap_append]
 simp
theorem allX_len(s:List ST)(i:Nat):(allX (s.take i)).length≤(allX s).length:=by
 have e:allX s=allX (s.take i)++allX (s.drop i):=by
  unfold allX
  rw[←List.flatMap_append,List.take_append_drop]
 rw[e]
 simp
def prX(s:List ST):List DV:=if chX s=0 then [.d (.v (.string (tx (allX s)))),.d (.v (.int .i64 0))]else [.d (.v (.string (tx []))),.d (.v (.int .i64 (chX s)))]
set_option maxRecDepth 100000 in
set_option maxHeartbeats 4000000 in
theorem sexpPrint(s:List ST)(hl:s.length≤9223372036854775807)(hok:okXs s)(hlen:(allX s).length≤1000000000000):Fn Tryz.prog 55 [.d (.l (s.map enX))] (prX s):=by
 have hc:=sexpCheck s hl hok
 have hsg:=okXs_mem hok
 unfold prX
 by_cases h0:chX s=0
 rotate_left
 ·rw[if_neg h0]
  generalize chX s=c at hc h0 ⊢
  refine Fn.of Tryz.func55 rfl (by kernel_rfl) Tryz.ntmps55 Tryz.results55 rfl fun w0 S0=>?_
  refine wk ?_
  refine c1 hc ?_
  refine wk ?_
  exact⟨.d rfl (.inl rfl),.d rfl (.inl rfl),trivial⟩
 rw[if_pos h0]
 rw[h0]at hc
 refine Fn.of Tryz.func55 rfl (by kernel_rfl) Tryz.ntmps55 Tryz.results55 rfl fun w0 S0=>?_
 refine wk ?_
 refine c1 hc ?_
 refine wk ?_
 refine AC.rowVar 5 25 5 1 rfl rfl ?_
 refine AC.loop (X:=Nat×Nat) (fun x=>⟨[(5,.r 25 x.2),(13,.d (.l (s.map enX))),(14,.d (.v (.int .i64 (s.length:Int)))),(15,.d (.v (.int .i64 (x.1:Int))))],[(25,.row x.2 5 1 ((allX (s.take x.1)).map enBy))]⟩) (fun x=>x.1≤s.length) (fun x=>s.length-x.1) (0,0) (Nat.zero_le _) ⟨rfl,rfl,rfl,rfl,trivial⟩ ⟨rfl,trivial⟩ ?_
 intro ⟨i,g⟩ hi
 dsimp only at hi ⊢
 have hpl:=allX_len s i
 have hml:((allX (s.take i)).map enBy).length=(allX (s.take i)).length:=List.length_map ..
 refine wk ?_
 refine s1 (fun g1=>?_) (fun g1=>?_)
 ·have hi1:i<s.length:=by omega
  have hx:s[i]?=some s[i]:=List.getElem?_eq_getElem hi1
  have hgm:=List.getElem_mem hi1
  have hpl2:=allX_len s (i+1)
  have he:=allX_take (s:=s) hi1
  generalize s[i]=e at hx hgm he
  rw[he]at hpl2
  simp only[List.length_append,List.length_cons,List.length_nil]at hpl2
  have hf:=putF _ e (Nat.lt_succ_self _) (hsg e hgm) (allX (s.take i)) (by omega)
  have hml2:((allX (s.take i)++putX e).map enBy).length=(allX (s.take i)).length+(putX e).length:=by simp
  refine wk ?_
  ((try (first | intro K ms hms hK | intro K hK));(first | apply Chain.ef | apply Chain.efD);exact rfl;exact rfl;(refine Do.callA (hf) rfl rfl rfl ?_;(repeat (first | exact trivial | refine⟨.inl rfl,?_⟩ | refine⟨.inr rfl,?_⟩)));exact rfl;exact rfl)
  refine wk ?_
  rw[by10]
  exact⟨(i+1,_),hi1,by dsimp only;omega,⟨rfl,rfl,rfl,rfl,trivial⟩,⟨by dsimp only;rw[he];rfl,trivial⟩⟩
 ·obtain rfl:i=s.length:=by omega
  rw[List.take_length]
  refine wk ?_
  (first | intro K ms hms hK | intro K hK | skip)
  refine Chain.frzVar 25 rfl rfl ?_
  ((try (first | intro K ms hms hK | intro K hK));(first | apply Chain.go | apply Chain.goD);exact rfl;exact rfl;exact Loc.toStr (e:=5) rfl rfl (by kernel_rfl) (by kernel_rfl) (by kernel_rfl))
  refine wk ?_
  exact⟨.d rfl (.inl rfl),.d rfl (.inl rfl),trivial⟩
set_option maxRecDepth 100000 in
set_option maxHeartbeats 2000000 in
theorem sexpRow(s:List ST)(hl:s.length≤1000000):Fn Tryz.prog 154 [.d (.l (s.map enX))] [.g (enX (.mk false [] s))]:=by
 rw[enX_mk]
 have hml:(s.map enX).length=s.length:=List.length_map ..
 refine Fn.of Tryz.func154 rfl (by kernel_rfl) Tryz.ntmps154 Tryz.results154 rfl fun w0 S0=>?_
 refine wk ?_
 ((try (first | intro K ms hms hK | intro K hK));(first | apply Chain.ef | apply Chain.efD);exact rfl;exact rfl;exact Do.appendN rfl rfl rfl rfl (by intro y hy;obtain⟨t,_,rfl⟩:=List.mem_map.1 hy;rfl) (by rw[hml];omega);exact rfl;exact rfl)
 refine Chain.frzVar 4 rfl rfl ?_
 refine wk ?_
 exact⟨.cn rfl rfl inferInstance rfl ⟨.inl rfl,.inl rfl,.inl rfl,trivial⟩,trivial⟩
end Go.Proofs.YtbbpecfapohlaaaGreatDoor
