import Derived.Test.YtbbpecfapohlaaaGreatDoorCl
import Derived.Test.YtbbpecfapohlaaaGreatDoorOx
set_option maxRecDepth 100000
set_option maxHeartbeats 4000000
namespace Go.Proofs.YtbbpecfapohlaaaGreatDoor
open Go.RowKit
attribute [local irreducible] AC Do St
section
variable {P:Program}{C:Cx}{o:Oper}{σ:AS}
theorem Loc.maxZ{x y:Operand}{ts:Array TypeId}{k:IntKind}{a b m:Int}(ho:o.op= .call {callee:= .builtin .max,args:= #[x,y],argTypes:=ts })(hx:ev σ x= .d (.v (.int k a)))(hy:ev σ y= .d (.v (.int k b)))(hm:(if b>a then b else a)=m):Loc P C o σ (.d (.v (.int k m))):=
 Loc.two (by rw[ho];simp[Op.operands,Call.operands]) hx (by rw[ho];simp[Op.operands,Call.operands]) hy fun S w β O c h1 h2=>by
  refine⟨.int k m,?_,.mk rfl⟩;unfold execOp;rw[ho];have hr:(Builtin.max_ ts o.type #[.int k a,.int k b]).run P w= .ok (.int k m) w:=by
   simp only[Builtin.max_,List.foldlM_cons,List.foldlM_nil,Builtin.max2];simp only[hm];simp
  simp only[resolve,invoke,builtin,Sem.run_bind,Sem.run_pure,Result.andThen_ok,List.map_toArray,List.map_cons,List.map_nil,RA.val h1,RA.val h2,hr]
theorem Loc.negM{T:TypeId}{x:Operand}{k:IntKind}{a m:Int}(ho:o.op= .unOp .neg T x)(hx:ev σ x= .d (.v (.int k a)))(hr:k.wrap (0-a)=m):Loc P C o σ (.d (.v (.int k m))):=
 Loc.one (X:=x) (by rw[ho];simp[Op.operands]) hx fun S w β O c h1=>by
  refine⟨.int k m,?_,.mk rfl⟩;unfold execOp;rw[ho];have e:k.wrap (-a)=m:=by rw[←Int.zero_sub];exact hr
  simp[RA.val h1,Op.unary,Op.intArith,e]
end
def sz0(l:Int):Int:=if okLi l then szI l else 0
theorem sizeF(l:Int)(h:inR l):Fn Tryz.prog 171 [.d (.v (.int .i64 l))] [.d (.v (.int .i64 (sz0 l)))]:=by
 obtain⟨h1,h2⟩:=h;by_cases hl:l<0
 ·by_cases hm:l= -9223372036854775808
  ·subst hm;refine Fn.of Tryz.func171 rfl (by kernel_rfl) Tryz.ntmps171 Tryz.results171 rfl fun w0 S0=>?_;refine wa ?_;((try (first | intro K ms hms hK | intro K hK));(first | apply Chain.go | apply Chain.goD);exact rfl;exact rfl;exact Loc.negM rfl rfl (m:= -9223372036854775808) (by decide));refine wa ?_;((try (first | intro K ms hms hK | intro K hK));(first | apply Chain.go | apply Chain.goD);exact rfl;exact rfl;exact Loc.maxZ rfl rfl rfl (m:=0) (by decide));refine wa ?_;exact⟨.d rfl (.inl rfl),trivial⟩
  ·have e:sz0 l= -l:=by
    unfold sz0 szI;rw[if_pos (show okLi l from⟨by omega,by omega,h2⟩),if_pos hl]
   rw[e];refine Fn.of Tryz.func171 rfl (by kernel_rfl) Tryz.ntmps171 Tryz.results171 rfl fun w0 S0=>?_;refine wa ?_;((try (first | intro K ms hms hK | intro K hK));(first | apply Chain.go | apply Chain.goD);exact rfl;exact rfl;exact Loc.negM rfl rfl (m:= -l) (by rw[Int.zero_sub];exact IntWalk.i64_in _ (by omega)));refine wa ?_;((try (first | intro K ms hms hK | intro K hK));(first | apply Chain.go | apply Chain.goD);exact rfl;exact rfl;exact Loc.maxZ rfl rfl rfl (m:= -l) (if_neg (by omega)));refine wa ?_;exact⟨.d rfl (.inl rfl),trivial⟩
 ·have e:sz0 l=l:=by
   unfold sz0 szI;by_cases h0:l=0
   ·subst h0;decide
   ·rw[if_pos (show okLi l from⟨h0,by omega,h2⟩),if_neg hl]
  rw[e];refine Fn.of Tryz.func171 rfl (by kernel_rfl) Tryz.ntmps171 Tryz.results171 rfl fun w0 S0=>?_;refine wa ?_;by_cases h0:l=0
  ·subst h0;((try (first | intro K ms hms hK | intro K hK));(first | apply Chain.go | apply Chain.goD);exact rfl;exact rfl;exact Loc.maxZ rfl rfl rfl (m:=0) (by decide));refine wa ?_;exact⟨.d rfl (.inl rfl),trivial⟩
  ·((try (first | intro K ms hms hK | intro K hK));(first | apply Chain.go | apply Chain.goD);exact rfl;exact rfl;exact Loc.maxZ rfl rfl rfl (m:=l) (if_neg (by omega)));refine wa ?_;exact⟨.d rfl (.inl rfl),trivial⟩
theorem all_take{c:List Int}{P:Int→Prop}{i:Nat}(h1:i<c.length)(h:∀ l∈c.take i,P l)(h2:P c[i]):∀ l∈c.take (i+1),P l:=by
 rw[List.take_succ_eq_append_getElem h1];intro l hl;rcases List.mem_append.1 hl with hl | hl
 ·exact h l hl
 ·rw[List.mem_singleton.1 hl];exact h2
theorem good13(c:List Int)(hc:∀ l∈c,inR l)(hl:c.length≤1000000000):Fn Tryz.prog 124 [.d (enZ c)] [.d (.v (.bool (c.all fun l=>decide (okLi l))))]:=by
 refine Fn.of Tryz.func124 rfl (by kernel_rfl) Tryz.ntmps124 Tryz.results124 rfl fun w0 S0=>?_;refine wa ?_;refine AC.loop (X:=Nat) (fun i=>⟨[(5,.d (enZ c)),(6,.d (.v (.int .i64 (c.length:Int)))),(7,.d (.v (.int .i64 (i:Int))))],[]⟩) (fun i=>i≤c.length∧∀ l∈c.take i,okLi l) (fun i=>c.length-i) 0 ⟨Nat.zero_le _,fun l hl=>by simp at hl⟩ ⟨rfl,rfl,rfl,trivial⟩ trivial ?_;intro i ⟨hi,hg⟩;dsimp only at hi hg ⊢;by_cases h1:i<c.length
 ·have hx:=List.getElem?_eq_getElem h1;have hm:=List.getElem_mem h1;have hs:okLi c[i]→∀ l∈c.take (i+1),okLi l:=all_take h1 hg;have hno:¬ okLi c[i]→(c.all fun l=>decide (okLi l))=false:=fun h=>by
   rw[List.all_eq_false];exact⟨_,hm,by simpa using h⟩
  have hr:=hc _ hm;generalize c[i]=l at hx hs hno hr;obtain⟨r1,r2⟩:=hr;by_cases h0:l=0
  ·rw[hno fun h=>h.1 h0];refine wa ?_;exact⟨.d rfl (.inl rfl),trivial⟩
  by_cases h2:l= -9223372036854775808
  ·rw[hno fun h=>by have:=h.2.1;omega];refine wa ?_;exact⟨.d rfl (.inl rfl),trivial⟩
  ·refine wa ?_;exact⟨i+1,⟨h1,hs ⟨h0,by omega,r2⟩⟩,by omega,⟨rfl,rfl,rfl,trivial⟩,trivial⟩
 ·have:(c.all fun l=>decide (okLi l))=true:=by
   rw[List.all_eq_true];rw[List.take_of_length_le (by omega)]at hg;exact fun l hl=>decide_eq_true (hg l hl)
  rw[this];refine wa ?_;exact⟨.d rfl (.inl rfl),trivial⟩
theorem has13(c:List Int)(x:Int)(hl:c.length≤1000000000):Fn Tryz.prog 106 [.d (enZ c),.d (.v (.int .i64 x))] [.d (.v (.bool (decide (x∈c))))]:=by
 refine Fn.of Tryz.func106 rfl (by kernel_rfl) Tryz.ntmps106 Tryz.results106 rfl fun w0 S0=>?_;refine wa ?_;refine AC.loop (X:=Nat) (fun i=>⟨[(1,.d (.v (.int .i64 x))),(7,.d (enZ c)),(8,.d (.v (.int .i64 (c.length:Int)))),(9,.d (.v (.int .i64 (i:Int))))],[]⟩) (fun i=>i≤c.length∧∀ l∈c.take i,l≠x) (fun i=>c.length-i) 0 ⟨Nat.zero_le _,fun l hl=>by simp at hl⟩ ⟨rfl,rfl,rfl,rfl,trivial⟩ trivial ?_;intro i ⟨hi,hg⟩;dsimp only at hi hg ⊢;by_cases h1:i<c.length
 ·have hx:=List.getElem?_eq_getElem h1;have hm:=List.getElem_mem h1;have hs:c[i]≠x→∀ l∈c.take (i+1),l≠x:=all_take (P:=fun l=>l≠x) h1 hg;generalize c[i]=l at hx hs hm;by_cases h0:l=x
  ·rw[decide_eq_true (h0▸hm)];refine wa ?_;exact⟨.d rfl (.inl rfl),trivial⟩
  ·refine wa ?_;exact⟨i+1,⟨h1,hs h0⟩,by omega,⟨rfl,rfl,rfl,rfl,trivial⟩,trivial⟩
 ·rw[List.take_of_length_le (by omega)]at hg;rw[decide_eq_false fun h=>hg x h rfl];refine wa ?_;exact⟨.d rfl (.inl rfl),trivial⟩
theorem max_sz{l:Int}(h:okLi l):(if-l>l then-l else l)=szI l:=by
 unfold szI;obtain⟨h1,h2,h3⟩:=h;split<;>split<;>omega
theorem ahead13(a b:Int)(ha:okLi a)(hb:okLi b):Fn Tryz.prog 166 [.d (.v (.int .i64 a)),.d (.v (.int .i64 b))] [.d (.v (.bool (ahI a b)))]:=by
 have m1:=max_sz ha;have m2:=max_sz hb;have s1':=szI_ok ha;have s2':=szI_ok hb;have w1:IntKind.i64.wrap (0-a)= -a:=by rw[Int.zero_sub];exact IntWalk.i64_in _ (by have:=ha.2;omega)
 have w2:IntKind.i64.wrap (0-b)= -b:=by rw[Int.zero_sub];exact IntWalk.i64_in _ (by have:=hb.2;omega)
 obtain⟨R,hR⟩:∃ R,ahI a b=R:=⟨_,rfl⟩
 rw[hR];unfold ahI at hR;generalize szI a=x at m1 s1' hR;generalize szI b=y at m2 s2' hR;refine Fn.of Tryz.func166 rfl (by kernel_rfl) Tryz.ntmps166 Tryz.results166 rfl fun w0 S0=>?_;refine wa ?_;((try (first | intro K ms hms hK | intro K hK));(first | apply Chain.go | apply Chain.goD);exact rfl;exact rfl;exact Loc.negM rfl rfl w1);refine wa ?_;((try (first | intro K ms hms hK | intro K hK));(first | apply Chain.go | apply Chain.goD);exact rfl;exact rfl;exact Loc.maxZ rfl rfl rfl m1);refine wa ?_;((try (first | intro K ms hms hK | intro K hK));(first | apply Chain.go | apply Chain.goD);exact rfl;exact rfl;exact Loc.negM rfl rfl w2);refine wa ?_;((try (first | intro K ms hms hK | intro K hK));(first | apply Chain.go | apply Chain.goD);exact rfl;exact rfl;exact Loc.maxZ rfl rfl rfl m2);by_cases h1:x<y
 ·rw[decide_eq_true (.inl h1)]at hR;subst hR;refine wa ?_;exact⟨.d rfl (.inl rfl),trivial⟩
 by_cases h2:x=y
 ·by_cases h3:b<a
  ·rw[decide_eq_true (.inr ⟨h2,h3⟩)]at hR;subst hR;refine wa ?_;exact⟨.d rfl (.inl rfl),trivial⟩
  ·rw[decide_eq_false (by omega)]at hR;subst hR;refine wa ?_;exact⟨.d rfl (.inl rfl),trivial⟩
 ·rw[decide_eq_false (by omega)]at hR;subst hR;refine wa ?_;exact⟨.d rfl (.inl rfl),trivial⟩
theorem nxI_len(l:Int):∀ p:List Int,(nxI l p).length≤p.length+1
 | []=>by simp[nxI]
 | m::r=>by
   have:=nxI_len l r;rw[nxI];split<;>simp<;>omega
theorem inI_len(l:Int):∀ p:List Int,(inI l p).length=p.length+1
 | []=>by simp[inI]
 | m::r=>by
   have:=inI_len l r;rw[inI];split<;>simp<;>omega
theorem canI_len(c:List Int):(canI c).length≤c.length:=by
 have:∀ (c o:List Int),(c.foldl (fun o l=>if l∈o then o else inI l o) o).length≤o.length+c.length:=by
  intro c
  induction c with
  | nil=>intro o;simp
  | cons l c ih=>
    intro o;rw[List.foldl_cons];refine Nat.le_trans (ih _) ?_;have:=inI_len l o;rw[List.length_cons];split<;>omega
 have h:=this c [];simp only[List.length_nil,Nat.zero_add]at h;exact h
theorem canI_step{c:List Int}{i:Nat}(h:i<c.length):canI (c.take (i+1))=if c[i]∈canI (c.take i)then canI (c.take i)else inI c[i] (canI (c.take i)):=by
 rw[List.take_succ_eq_append_getElem h];unfold canI;rw[List.foldl_append];rfl
theorem zI_snoc(l:List Int)(v:Int):(l++[v]).map (fun v=>[D.v (.int .i64 v)])=l.map (fun v=>[D.v (.int .i64 v)])++[[.v (.int .i64 v)]]:=by rw[List.map_append];rfl
theorem canon13(c:List Int)(hc:∀ l∈c,okLi l)(hlen:c.length≤100000000):Fn Tryz.prog 98 [.d (enZ c)] [.d (enZ (canI c))]:=by
 refine Fn.of Tryz.func98 rfl (by kernel_rfl) Tryz.ntmps98 Tryz.results98 rfl fun w0 S0=>?_;refine wa ?_;refine AC.frzVar 3 rfl rfl ?_;refine AC.loop (X:=Nat) (fun i=>⟨[(3,.d (enZ (canI (c.take i)))),(11,.d (enZ c)),(12,.d (.v (.int .i64 (c.length:Int)))),(13,.d (.v (.int .i64 (i:Int))))],[]⟩) (fun i=>i≤c.length) (fun i=>c.length-i) 0 (Nat.zero_le _) ⟨rfl,rfl,rfl,rfl,trivial⟩ trivial ?_;intro i hi;dsimp only at hi ⊢;by_cases h1:i<c.length
 ·have hx:=List.getElem?_eq_getElem h1;have hm:=List.getElem_mem h1;have hst:=canI_step h1;have hln:=canI_len (c.take i);have hmo:∀ m∈canI (c.take i),okLi m:=fun m hm=>hc m (List.mem_of_mem_take ((canI_mem _ _).1 hm));have hok:=hc _ hm;rw[List.length_take]at hln;generalize c[i]=l at hx hst hok;generalize canI (c.take i)=o at hst hln hmo;have hh:=has13 o l (by omega);by_cases hl:l∈o
  ·rw[if_pos hl]at hst;rw[decide_eq_true hl]at hh;refine wa ?_;exact⟨i+1,h1,by omega,⟨by dsimp only;rw[hst];rfl,rfl,rfl,rfl,trivial⟩,trivial⟩
  ·rw[if_neg hl]at hst;rw[decide_eq_false hl]at hh;refine wa ?_;refine AC.loop (X:=Nat×Nat) (fun x=>⟨[(3,.d (enZ o)),(11,.d (enZ c)),(12,.d (.v (.int .i64 (c.length:Int)))),(13,.d (.v (.int .i64 (i:Int)))),(5,.d (.v (.int .i64 l))),(6,.r 20 x.2),(7,.d (.v (.bool ((o.take x.1).any (ahI l))))),(21,.d (enZ o)),(22,.d (.v (.int .i64 (o.length:Int)))),(23,.d (.v (.int .i64 (x.1:Int))))],[(20,.row x.2 3 1 ((nxI l (o.take x.1)).map fun v=>[D.v (.int .i64 v)]))]⟩) (fun x=>x.1≤o.length) (fun x=>o.length-x.1) (0,0) (Nat.zero_le _) ⟨rfl,rfl,rfl,rfl,rfl,rfl,rfl,rfl,rfl,rfl,trivial⟩ ⟨rfl,trivial⟩ ?_;intro ⟨j,g⟩ hj;dsimp only at hj ⊢;have hnl:=nxI_len l (o.take j);have hml:((nxI l (o.take j)).map fun v=>[D.v (.int .i64 v)]).length=(nxI l (o.take j)).length:=List.length_map ..;rw[List.length_take]at hnl;by_cases h2:j<o.length
   ·have hy:=List.getElem?_eq_getElem h2;have hsn:=nxI_snoc l o[j] (o.take j);have han:(o.take (j+1)).any (ahI l)=((o.take j).any (ahI l)||ahI l o[j]):=by
     rw[List.take_succ_eq_append_getElem h2,List.any_append];simp
    rw[←List.take_succ_eq_append_getElem h2]at hsn;have hma:=ahead13 l o[j] hok (hmo _ (List.getElem_mem h2));generalize o[j]=m at hy hsn han hma;cases hd:(o.take j).any (ahI l)with
    | true=>
      rw[hd]at hsn han;rw[if_neg (by simp)]at hsn;refine wa ?_;exact⟨(j+1,g+1),h2,by dsimp only;omega,⟨rfl,rfl,rfl,rfl,rfl,rfl,by dsimp only;rw[han];rfl,rfl,rfl,rfl,trivial⟩,⟨by dsimp only;rw[hsn,zI_snoc];rfl,trivial⟩⟩
    | false=>
      rw[hd]at hsn han;cases ha:ahI l m with
      | true=>
        rw[ha]at hsn han hma;rw[if_pos ⟨rfl,rfl⟩]at hsn;refine wa ?_;exact⟨(j+1,g+2),h2,by dsimp only;omega,⟨rfl,rfl,rfl,rfl,rfl,rfl,by dsimp only;rw[han];rfl,rfl,rfl,rfl,trivial⟩,⟨by dsimp only;rw[hsn,zI_snoc,zI_snoc];rfl,trivial⟩⟩
      | false=>
        rw[ha]at hsn han hma;rw[if_neg (by simp)]at hsn;refine wa ?_;exact⟨(j+1,g+1),h2,by dsimp only;omega,⟨rfl,rfl,rfl,rfl,rfl,rfl,by dsimp only;rw[han];rfl,rfl,rfl,rfl,trivial⟩,⟨by dsimp only;rw[hsn,zI_snoc];rfl,trivial⟩⟩
   ·obtain rfl:j=o.length:=by omega
    rw[List.take_length]at hml hnl ⊢;have hie:=inI_eq l o;cases hd:o.any (ahI l)with
    | true=>
      rw[hd,if_pos rfl]at hie;(repeat (first | refine Chain.nil0 (hK _ ?_) | ((first | apply Chain.go | apply Chain.goD);exact rfl;exact rfl;first | exact Loc.move (v:= .d _) rfl rfl | exact Loc.lssF rfl rfl rfl (by omega) | exact Loc.notT rfl rfl | exact Loc.notF rfl rfl) | refine AC.seq ?_ | (refine AC.reg (by decide+kernel) ?_;intro K hK) | refine AC.condT rfl ?_ | refine AC.condF rfl ?_ | refine AC.block ?_ | refine AC.exit ?_ | refine AC.skip ?_));refine Chain.frzVar 6 rfl rfl ?_;refine wa ?_;exact⟨i+1,h1,by omega,⟨by dsimp only;rw[hst,hie];rfl,rfl,rfl,rfl,trivial⟩,trivial⟩
    | false=>
      rw[hd,if_neg (by simp)]at hie;(repeat (first | refine Chain.nil0 (hK _ ?_) | ((first | apply Chain.go | apply Chain.goD);exact rfl;exact rfl;first | exact Loc.move (v:= .d _) rfl rfl | exact Loc.lssF rfl rfl rfl (by omega) | exact Loc.notT rfl rfl | exact Loc.notF rfl rfl) | refine AC.seq ?_ | (refine AC.reg (by decide+kernel) ?_;intro K hK) | refine AC.condT rfl ?_ | refine AC.condF rfl ?_ | refine AC.block ?_ | refine AC.exit ?_ | refine AC.skip ?_))
      (repeat (first
        | refine Chain.no rfl rfl ?_
        | refine Chain.noD rfl rfl ?_
        | ((first | apply Chain.go | apply Chain.goD);exact rfl;exact rfl;first
          | exact Loc.move (v:= .d _) rfl rfl
          | exact Loc.assign (v:= .d _) rfl rfl
          | exact Loc.loadP1 rfl rfl rfl rfl
          | exact Loc.loadQ1 rfl rfl rfl
          | exact Loc.fieldP rfl rfl rfl
          | exact Loc.fieldQ rfl rfl
          | exact Loc.pickT (v:= .d _) rfl rfl rfl
          | exact Loc.pickF (v:= .d _) rfl rfl rfl
          | exact Loc.loadPn rfl rfl rfl rfl (by kernel_rfl)
          | exact Loc.loadQw rfl rfl rfl
          | exact Loc.loadQn rfl rfl rfl rfl
          | exact Loc.idxM rfl rfl rfl rfl (by assumption) rfl
          | exact Loc.lenM rfl rfl
          | exact Loc.lenN rfl rfl
          | exact Loc.lenR rfl rfl rfl
          | exact Loc.len rfl rfl
          | exact Loc.lssT rfl rfl rfl (by omega)
          | exact Loc.lssF rfl rfl rfl (by omega)
          | exact Loc.eqlT rfl rfl rfl (by omega)
          | exact Loc.eqlF rfl rfl rfl (by omega)
          | exact Loc.neqT rfl rfl rfl (by omega)
          | exact Loc.neqF rfl rfl rfl (by omega)
          | exact Loc.gtrT rfl rfl rfl (by omega)
          | exact Loc.gtrF rfl rfl rfl (by omega)
          | exact Loc.geqT rfl rfl rfl (by omega)
          | exact Loc.geqF rfl rfl rfl (by omega)
          | exact Loc.leqT rfl rfl rfl (by omega)
          | exact Loc.leqF rfl rfl rfl (by omega)
          | exact Loc.add rfl rfl rfl (IntWalk.i64_in _ (by omega))
          | exact Loc.sub rfl rfl rfl (IntWalk.i64_in _ (by omega))
          | exact Loc.notT rfl rfl
          | exact Loc.notF rfl rfl
          | exact Loc.fieldE rfl rfl rfl
          | exact Loc.loadE1 rfl rfl rfl (by assumption) rfl
          | exact Loc.idxR rfl rfl rfl rfl rfl (by omega) rfl
          | exact Loc.move (v:= .g _) rfl rfl
          | exact Loc.move (v:= .p _ _) rfl rfl
          | exact Loc.move (v:= .r _ _) rfl rfl
          | exact Loc.move (v:= .t _) rfl rfl
          | exact Loc.assign (v:= .g _) rfl rfl
          | exact Loc.assign (v:= .r _ _) rfl rfl
          | exact Loc.assign (v:= .p _ _) rfl rfl
          | exact Loc.extract (v:= .d _) rfl rfl rfl rfl
          | exact Loc.extract (v:= .g _) rfl rfl rfl rfl
          | exact Loc.pickT (v:= .g _) rfl rfl rfl
          | exact Loc.pickF (v:= .g _) rfl rfl rfl
          | exact Loc.move (v:= .un) rfl rfl
          | exact Loc.build rfl rfl rfl rfl
          | exact Loc.litP rfl rfl rfl rfl rfl rfl rfl)
        | refine Chain.nil0 (hK _ ?_)
        | ((first | apply Chain.st | apply Chain.stD);exact rfl;exact rfl;(first
          | exact Do.storeP rfl rfl rfl rfl .g rfl rfl rfl
          | exact Do.storeP rfl rfl rfl rfl .d rfl rfl rfl
          | exact Do.storeP rfl rfl rfl rfl (.r rfl) rfl rfl rfl);exact rfl;exact rfl)
        | ((first | apply Chain.ef | apply Chain.efD);exact rfl;exact rfl;(first
          | exact Do.alloc rfl rfl rfl
          | exact Do.box rfl rfl rfl .g rfl
          | exact Do.box rfl rfl rfl .d rfl
          | exact Do.lit0 rfl rfl
          | exact Do.append1 rfl rfl rfl rfl rfl rfl (by first | omega | (simp;omega))
          | exact Do.appendN1 rfl rfl rfl rfl rfl rfl);exact rfl;exact rfl)
        | refine Chain.nilD (by rw[hms];kernel_rfl) (hK _ ?_)
        | refine Chain.noN rfl rfl ?_))
      (repeat (first | refine Chain.nil0 (hK _ ?_) | ((first | apply Chain.go | apply Chain.goD);exact rfl;exact rfl;first | exact Loc.move (v:= .d _) rfl rfl | exact Loc.lssF rfl rfl rfl (by omega) | exact Loc.notT rfl rfl | exact Loc.notF rfl rfl) | refine AC.seq ?_ | (refine AC.reg (by decide+kernel) ?_;intro K hK) | refine AC.condT rfl ?_ | refine AC.condF rfl ?_ | refine AC.block ?_ | refine AC.exit ?_ | refine AC.skip ?_));refine Chain.frzVar 6 rfl rfl ?_;refine wa ?_;exact⟨i+1,h1,by omega,⟨by dsimp only;rw[hst,hie,show enZ (nxI l o++[l])=D.l ((nxI l o).map (fun v=>[D.v (.int .i64 v)])++[[.v (.int .i64 l)]])from congrArg D.l (zI_snoc _ _)];rfl,rfl,rfl,rfl,trivial⟩,trivial⟩
 ·obtain rfl:i=c.length:=by omega
  rw[List.take_length];refine wa ?_;exact⟨.d rfl (.inl rfl),trivial⟩
theorem cloneZ(l:List Int)(hl:l.length≤1000000000):FnRow Tryz.prog 172 [.d (enZ l)] 3 1 (l.map zI):=by
 have hk:∀ c∈l.map zI,c.length=1:=zI_one;have hml:(l.map zI).length=l.length:=List.length_map ..;refine FnRow.of Tryz.func172 rfl (by kernel_rfl) Tryz.ntmps172 Tryz.results172 rfl fun w0 S0=>?_;refine wk ?_;(first | intro K ms hms hK | intro K hK);refine Chain.eqN rfl rfl rfl rfl (fun h u=>?_) (fun u=>?_)
 ·obtain rfl:l=[]:=List.map_eq_nil_iff.1 h
  (repeat (first
    | refine Chain.no rfl rfl ?_
    | refine Chain.noD rfl rfl ?_
    | ((first | apply Chain.go | apply Chain.goD);exact rfl;exact rfl;first
      | exact Loc.move (v:= .d _) rfl rfl
      | exact Loc.assign (v:= .d _) rfl rfl
      | exact Loc.loadP1 rfl rfl rfl rfl
      | exact Loc.loadQ1 rfl rfl rfl
      | exact Loc.fieldP rfl rfl rfl
      | exact Loc.fieldQ rfl rfl
      | exact Loc.pickT (v:= .d _) rfl rfl rfl
      | exact Loc.pickF (v:= .d _) rfl rfl rfl
      | exact Loc.loadPn rfl rfl rfl rfl (by kernel_rfl)
      | exact Loc.loadQw rfl rfl rfl
      | exact Loc.loadQn rfl rfl rfl rfl
      | exact Loc.idxM rfl rfl rfl rfl (by assumption) rfl
      | exact Loc.lenM rfl rfl
      | exact Loc.lenN rfl rfl
      | exact Loc.lenR rfl rfl rfl
      | exact Loc.len rfl rfl
      | exact Loc.lssT rfl rfl rfl (by omega)
      | exact Loc.lssF rfl rfl rfl (by omega)
      | exact Loc.eqlT rfl rfl rfl (by omega)
      | exact Loc.eqlF rfl rfl rfl (by omega)
      | exact Loc.neqT rfl rfl rfl (by omega)
      | exact Loc.neqF rfl rfl rfl (by omega)
      | exact Loc.gtrT rfl rfl rfl (by omega)
      | exact Loc.gtrF rfl rfl rfl (by omega)
      | exact Loc.geqT rfl rfl rfl (by omega)
      | exact Loc.geqF rfl rfl rfl (by omega)
      | exact Loc.leqT rfl rfl rfl (by omega)
      | exact Loc.leqF rfl rfl rfl (by omega)
      | exact Loc.add rfl rfl rfl (IntWalk.i64_in _ (by omega))
      | exact Loc.sub rfl rfl rfl (IntWalk.i64_in _ (by omega))
      | exact Loc.notT rfl rfl
      | exact Loc.notF rfl rfl
      | exact Loc.fieldE rfl rfl rfl
      | exact Loc.loadE1 rfl rfl rfl (by assumption) rfl
      | exact Loc.idxR rfl rfl rfl rfl rfl (by omega) rfl
      | exact Loc.move (v:= .g _) rfl rfl
      | exact Loc.move (v:= .p _ _) rfl rfl
      | exact Loc.move (v:= .r _ _) rfl rfl
      | exact Loc.move (v:= .t _) rfl rfl
      | exact Loc.assign (v:= .g _) rfl rfl
      | exact Loc.assign (v:= .r _ _) rfl rfl
      | exact Loc.assign (v:= .p _ _) rfl rfl
      | exact Loc.extract (v:= .d _) rfl rfl rfl rfl
      | exact Loc.extract (v:= .g _) rfl rfl rfl rfl
      | exact Loc.pickT (v:= .g _) rfl rfl rfl
      | exact Loc.pickF (v:= .g _) rfl rfl rfl
      | exact Loc.move (v:= .un) rfl rfl
      | exact Loc.build rfl rfl rfl rfl
      | exact Loc.litP rfl rfl rfl rfl rfl rfl rfl)
    | refine Chain.nil0 (hK _ ?_)
    | ((first | apply Chain.st | apply Chain.stD);exact rfl;exact rfl;(first
      | exact Do.storeP rfl rfl rfl rfl .g rfl rfl rfl
      | exact Do.storeP rfl rfl rfl rfl .d rfl rfl rfl
      | exact Do.storeP rfl rfl rfl rfl (.r rfl) rfl rfl rfl);exact rfl;exact rfl)
    | ((first | apply Chain.ef | apply Chain.efD);exact rfl;exact rfl;(first
      | exact Do.alloc rfl rfl rfl
      | exact Do.box rfl rfl rfl .g rfl
      | exact Do.box rfl rfl rfl .d rfl
      | exact Do.lit0 rfl rfl
      | exact Do.append1 rfl rfl rfl rfl rfl rfl (by first | omega | (simp;omega))
      | exact Do.appendN1 rfl rfl rfl rfl rfl rfl);exact rfl;exact rfl)
    | refine Chain.nilD (by rw[hms];kernel_rfl) (hK _ ?_)
    | refine Chain.noN rfl rfl ?_))
  refine AC.condT rfl ?_;refine AC.seq ?_;refine AC.reg (by decide+kernel) ?_;(first | intro K ms hms hK | intro K hK)
  (repeat (first
    | refine Chain.no rfl rfl ?_
    | refine Chain.noD rfl rfl ?_
    | ((first | apply Chain.go | apply Chain.goD);exact rfl;exact rfl;first
      | exact Loc.move (v:= .d _) rfl rfl
      | exact Loc.assign (v:= .d _) rfl rfl
      | exact Loc.loadP1 rfl rfl rfl rfl
      | exact Loc.loadQ1 rfl rfl rfl
      | exact Loc.fieldP rfl rfl rfl
      | exact Loc.fieldQ rfl rfl
      | exact Loc.pickT (v:= .d _) rfl rfl rfl
      | exact Loc.pickF (v:= .d _) rfl rfl rfl
      | exact Loc.loadPn rfl rfl rfl rfl (by kernel_rfl)
      | exact Loc.loadQw rfl rfl rfl
      | exact Loc.loadQn rfl rfl rfl rfl
      | exact Loc.idxM rfl rfl rfl rfl (by assumption) rfl
      | exact Loc.lenM rfl rfl
      | exact Loc.lenN rfl rfl
      | exact Loc.lenR rfl rfl rfl
      | exact Loc.len rfl rfl
      | exact Loc.lssT rfl rfl rfl (by omega)
      | exact Loc.lssF rfl rfl rfl (by omega)
      | exact Loc.eqlT rfl rfl rfl (by omega)
      | exact Loc.eqlF rfl rfl rfl (by omega)
      | exact Loc.neqT rfl rfl rfl (by omega)
      | exact Loc.neqF rfl rfl rfl (by omega)
      | exact Loc.gtrT rfl rfl rfl (by omega)
      | exact Loc.gtrF rfl rfl rfl (by omega)
      | exact Loc.geqT rfl rfl rfl (by omega)
      | exact Loc.geqF rfl rfl rfl (by omega)
      | exact Loc.leqT rfl rfl rfl (by omega)
      | exact Loc.leqF rfl rfl rfl (by omega)
      | exact Loc.add rfl rfl rfl (IntWalk.i64_in _ (by omega))
      | exact Loc.sub rfl rfl rfl (IntWalk.i64_in _ (by omega))
      | exact Loc.notT rfl rfl
      | exact Loc.notF rfl rfl
      | exact Loc.fieldE rfl rfl rfl
      | exact Loc.loadE1 rfl rfl rfl (by assumption) rfl
      | exact Loc.idxR rfl rfl rfl rfl rfl (by omega) rfl
      | exact Loc.move (v:= .g _) rfl rfl
      | exact Loc.move (v:= .p _ _) rfl rfl
      | exact Loc.move (v:= .r _ _) rfl rfl
      | exact Loc.move (v:= .t _) rfl rfl
      | exact Loc.assign (v:= .g _) rfl rfl
      | exact Loc.assign (v:= .r _ _) rfl rfl
      | exact Loc.assign (v:= .p _ _) rfl rfl
      | exact Loc.extract (v:= .d _) rfl rfl rfl rfl
      | exact Loc.extract (v:= .g _) rfl rfl rfl rfl
      | exact Loc.pickT (v:= .g _) rfl rfl rfl
      | exact Loc.pickF (v:= .g _) rfl rfl rfl
      | exact Loc.move (v:= .un) rfl rfl
      | exact Loc.build rfl rfl rfl rfl
      | exact Loc.litP rfl rfl rfl rfl rfl rfl rfl)
    | refine Chain.nil0 (hK _ ?_)
    | ((first | apply Chain.st | apply Chain.stD);exact rfl;exact rfl;(first
      | exact Do.storeP rfl rfl rfl rfl .g rfl rfl rfl
      | exact Do.storeP rfl rfl rfl rfl .d rfl rfl rfl
      | exact Do.storeP rfl rfl rfl rfl (.r rfl) rfl rfl rfl);exact rfl;exact rfl)
    | ((first | apply Chain.ef | apply Chain.efD);exact rfl;exact rfl;(first
      | exact Do.alloc rfl rfl rfl
      | exact Do.box rfl rfl rfl .g rfl
      | exact Do.box rfl rfl rfl .d rfl
      | exact Do.lit0 rfl rfl
      | exact Do.append1 rfl rfl rfl rfl rfl rfl (by first | omega | (simp;omega))
      | exact Do.appendN1 rfl rfl rfl rfl rfl rfl);exact rfl;exact rfl)
    | refine Chain.nilD (by rw[hms];kernel_rfl) (hK _ ?_)
    | refine Chain.noN rfl rfl ?_))
  refine AC.rowVar 2 7 3 1 rfl rfl ?_;refine wk ?_;exact⟨2,7,0,rfl,rfl,rfl⟩
 ·refine wk ?_;((try (first | intro K ms hms hK | intro K hK));(first | apply Chain.ef | apply Chain.efD);exact rfl;exact rfl;exact Do.append rfl rfl rfl rfl rfl hk (by simp;omega);exact rfl;exact rfl);refine wk ?_;exact⟨2,5,1,rfl,rfl,rfl⟩
theorem clipZ(l:List Int)(_hl:l.length≤1000000000):Fn Tryz.prog 175 [.d (enZ l)] [.d (enZ l)]:=by
 have hml:(l.map fun v=>[D.v (.int .i64 v)]).length=l.length:=List.length_map ..;refine Fn.of Tryz.func175 rfl (by kernel_rfl) Tryz.ntmps175 Tryz.results175 rfl fun w0 S0=>?_;refine wa ?_;((try (first | intro K ms hms hK | intro K hK));(first | apply Chain.go | apply Chain.goD);exact rfl;exact rfl;exact Loc.partHM l.length rfl rfl rfl rfl (by first | rfl | omega) (by first | rfl | omega) (by omega));refine wa ?_;rw[List.take_of_length_le (by omega)];exact⟨.d rfl (.inl rfl),trivial⟩
def canC(c:List Int):List DV:=if (c.all fun l=>decide (okLi l))=true then [.d (enZ (canI c)),.d (.v (.int .i64 0))]else [.d (.l []),.d (.v (.int .i64 4))]
theorem eg_order:∀ args w,(callFunc 174 args).run Tryz.prog w= .ok (.enter 174 args) w:=enters_of Tryz.func174 (by kernel_rfl) rfl
theorem canonC(c:List Int)(hc:∀ l∈c,inR l)(hlen:c.length≤100000000):Fn Tryz.prog 103 [.d (enZ c)] (canC c):=by
 have hcl:=cloneZ c (by omega);unfold canC;refine Fn.of Tryz.func103 rfl (by kernel_rfl) Tryz.ntmps103 Tryz.results103 rfl fun w0 S0=>?_;refine wa ?_;refine AC.loop (X:=Nat) (fun i=>⟨[(0,.d (enZ c)),(7,.d (enZ c)),(8,.d (.v (.int .i64 (c.length:Int)))),(9,.d (.v (.int .i64 (i:Int))))],[]⟩) (fun i=>i≤c.length∧∀ l∈c.take i,okLi l) (fun i=>c.length-i) 0 ⟨Nat.zero_le _,fun l hl=>by simp at hl⟩ ⟨rfl,rfl,rfl,rfl,trivial⟩ trivial ?_;intro i ⟨hi,hg⟩;dsimp only at hi hg ⊢;by_cases h1:i<c.length
 ·have hx:=List.getElem?_eq_getElem h1;have hm:=List.getElem_mem h1;have hs:okLi c[i]→∀ l∈c.take (i+1),okLi l:=all_take h1 hg;have hno:¬ okLi c[i]→(c.all fun l=>decide (okLi l))=false:=fun h=>by
   rw[List.all_eq_false];exact⟨_,hm,by simpa using h⟩
  have hz:=sizeF c[i] (hc _ hm);generalize c[i]=l at hx hs hno hz;by_cases h0:okLi l
  ·have hsz:=szI_ok h0;rw[show sz0 l=szI l from if_pos h0]at hz;refine wa ?_;exact⟨i+1,⟨h1,hs h0⟩,by omega,⟨rfl,rfl,rfl,rfl,trivial⟩,trivial⟩
  ·rw[hno h0,if_neg (by decide)];rw[show sz0 l=0 from if_neg h0]at hz;refine wa ?_;exact⟨.d rfl (.inr rfl),.d rfl (.inl rfl),trivial⟩
 ·rw[List.take_of_length_le (by omega)]at hg;rw[show (c.all fun l=>decide (okLi l))=true from List.all_eq_true.2 fun l hl=>decide_eq_true (hg l hl),if_pos rfl];refine wa ?_;((try (first | intro K ms hms hK | intro K hK));(first | apply Chain.ef | apply Chain.efD);exact rfl;exact rfl;exact Do.callRow hcl rfl ⟨.inl rfl,trivial⟩ rfl;exact rfl;exact rfl);refine wa ?_;((try (first | intro K ms hms hK | intro K hK));refine Chain.callS rfl rfl (sortZ eg_order (fun x y W=>order_calls x.1 y.1 x.2 y.2 W) hg (by omega)) rfl rfl rfl ?_ ?_;(focus ((repeat (first | exact trivial | refine⟨.inl rfl,?_⟩ | refine⟨.inr rfl,?_⟩)))));rintro zs' ⟨d,rfl,d1,d2,d3⟩;have hcc:=compact_can d c d3 d2;have hcp:=compZ d (by omega);rw[hcc]at hcp;refine wa ?_;((try (first | intro K ms hms hK | intro K hK));(first | apply Chain.ef | apply Chain.efD);exact rfl;exact rfl;(refine Do.callA (hcp) rfl rfl rfl ?_;(repeat (first | exact trivial | refine⟨.inl rfl,?_⟩ | refine⟨.inr rfl,?_⟩)));exact rfl;exact rfl);(first | intro K ms hms hK | intro K hK | skip);refine Chain.frzVar 22 rfl rfl ?_;have hcz:=clipZ (canI c) (by have:=canI_len c;omega);refine wa ?_;exact⟨.d rfl (.inl rfl),.d rfl (.inl rfl),trivial⟩
end Go.Proofs.YtbbpecfapohlaaaGreatDoor
