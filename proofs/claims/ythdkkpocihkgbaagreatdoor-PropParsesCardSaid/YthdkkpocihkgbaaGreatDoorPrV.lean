import Derived.Test.YthdkkpocihkgbaaGreatDoorPrU
import Derived.Test.YthdkkpocihkgbaaGreatDoorPrR
namespace Go.Proofs.YthdkkpocihkgbaaGreatDoor
open Go.RowKit
section
variable {P:Program}{C:Cx}{o:Oper}{σ:AS}
theorem AC.wj{c:Code}{Q:Exit→AS→Prop}{V:AS→Prop}(h:Ch P C #[] ko V none [] σ)(k:∀ σ',V σ'→AC P C c Q σ'):AC P C c Q σ:=fun a w hs=>by
 have:=Ch.seq (Q:=fun _=>V) (P:=P) (C:=C) (ops:= #[]) (fin:=ko) h (by simp) a w hs;obtain⟨σ',h1,h2⟩:=this;exact k σ' h1 a w h2
theorem AC.fO{c:Code}{Q:Exit→AS→Prop}{E:List (Nat×AV)}{O:List (Nat×AO)}{T:TypeId}(t id:Nat)(cs:List D)(ht:af E t=some (.p id 0))(hO:af O id=some (.box T (cs.map .d)))
  (h:∀ b,AC P C c Q ⟨(t,.d (.v (aT b 0)))::E,(id,bL b T cs)::O⟩):AC P C c Q ⟨E,O⟩:=
 AC.wj (V:=fun σ'=>∃ b,σ'=⟨(t,.d (.v (aT b 0)))::E,(id,bL b T cs)::O⟩) (Ch.pin t id cs ht hO fun b=> .eO ⟨b,rfl⟩) (by rintro _ ⟨b,rfl⟩;exact h b)
theorem AC.mV{c:Code}{Q:Exit→AS→Prop}(id:Nat)(e:TypeId)(k:Nat)(hn:idOK C σ id=true)(h:AC P C c Q ⟨σ.env,(id,gF (.slice none 0 0) e k [])::σ.objs⟩):AC P C c Q σ:=
 AC.wj (V:=fun σ'=>σ'=⟨σ.env,(id,gF (.slice none 0 0) e k [])::σ.objs⟩) (Ch.mV id e k hn (.eO rfl)) (by rintro _ rfl;exact h)
theorem AC.oT{c:Code}{Q:Exit→AS→Prop}(id:Nat){x:Value}{R:ej}(R':ej)(hO:af σ.objs id=some (.own x R))(hR:∀ S w,R S w→R' S w)(hst:eT x R')(h:AC P C c Q ⟨σ.env,(id,.own x R')::σ.objs⟩):AC P C c Q σ:=
 .weak _ (fun a w ⟨β,hi⟩=>by
  obtain⟨hx,h1,_⟩:=hi.obj id _ hO;have h2:=hi.rv id _ hO R' (hR _ _ h1) (by rw[hx];exact hst);rw[hx]at h2;exact⟨β,h2⟩) h
theorem ma{b:Nat}{T:TypeId}{cs:List D}(S:Nat→Prop)(w:World)(h:fm b T cs S w):fm b T (cs.map D.nv) S w:=by
 obtain⟨us,h1,h2⟩:=h;exact⟨us,h1,by simp[h2.1],fun i g1 g2=>by rw[List.getElem_map];exact RD.nv (h2.2 i g1 (by simpa using g2))⟩
theorem AC.Ae{c:Code}{Q:Exit→AS→Prop}{E:List (Nat×AV)}{O:List (Nat×AO)}{T:TypeId}(t id:Nat)(cs:List D)(ht:af E t=some (.p id 0))(hO:af O id=some (.box T (cs.map .d)))
  (h:∀ b,AC P C c Q ⟨(t,.d (.v (aT b 0)))::E,(id,bL b T (cs.map D.nv))::(id,bL b T cs)::O⟩):AC P C c Q ⟨E,O⟩:=
 AC.fO t id cs ht hO fun b=>AC.oT id (fm b T (cs.map D.nv)) (by rw[ai,if_pos rfl];rfl) ma (cA _ _ _) (h b)
theorem FnO.eff{E:List (Nat×AV)}{O:List (Nat×AO)}{f:FuncId}{K:World→Prop}{pre:List (Value×ej)}{args:List DV}{Post:List (Value×ej)→List DV→Prop}{xs:Array Operand}{ts:Array TypeId}{d:Nat}(is:List Nat)(hF:FnO P f K pre args Post)(ho:o.op= .call {callee:= .value (.func f),args:=xs,argTypes:=ts })(hd:o.dst=some d)
  (hn:is.Nodup) (hl:is.length=pre.length) (hO:∀ j (h:j<pre.length) (h':j<is.length),af O is[j]=some (.own pre[j].1 pre[j].2)) (ha:dp ⟨E,O⟩ xs.toList args) (hKw:∀ w',qn C.m C.w0 w'→K w') (hdst:dstOK C.nt o=true):
  FZ P C o ⟨E,O⟩ fun σ'=>∃ post res,Post post res∧post.length=pre.length∧σ'=⟨(d,dQ res)::E,cS is post++O⟩:=by
 rintro a w K' Q' ⟨β,hi⟩ hK;unfold Oper.wp;rw[fT hF.body ho rfl];have h1:=dm (σ:=⟨E,O⟩) hi (fun x _=>hi.ev x) ha;have hβ:∀ j (h:j<pre.length) (h':j<is.length),β is[j]=pre[j].1:=fun j h1 h2=>(hi.obj _ _ (hO j h1 h2)).1;refine(hF.run (Dat C β O w) w _ (fun w' hf=>hKw w' (hi.Af hl hO hf)) (fun b hb=>hb.2.1) ⟨fun i h=>(hi.obj _ _ (hO i h (by omega))).2.1,fun i h=>(hi.obj _ _ (hO i h (by omega))).2.2,fun i h b hb=>?_,fun i j h h' b q1 q2=>?_⟩ h1).mono ?_
 ·have hb':aQ (β (is[i]'(by omega)))=some b:=by rw[hβ i h (by omega)];exact hb
  exact⟨(hi.own _ _ b (hO i h (by omega)) hb').2,fun hD=>hD.2.2 _ _ (hO i h (by omega)) hb'⟩
 ·have:=hi.dis _ _ _ _ b (hO i h (by omega)) (hO j h' (by omega)) (by rw[hβ i h (by omega)];exact q1) (by rw[hβ j h' (by omega)];exact q2);exact(List.getElem_inj hn).1 this
 ·rintro ev w' ⟨post,res,u,p1,p2,rfl,p3,p4,p5,p6,p7,p8,p9,p10⟩;obtain⟨h5,h6⟩:=hi.Ah is pre post hn hl p2 hO p3 p4 p5 p6 p7 p8 p9;have h7:=h5.put (some d) (fun t ht=>by cases ht;exact dstOK.out hdst d hd) (gz (xs:=res) (RA.same (w':=w') p10 fun b hb=>⟨h6 b hb,rfl⟩));exact hK ⟨(d,dQ res)::E,cS is post++O⟩ (a.put o.dst u) w' ⟨post,res,p1,p2,rfl⟩ (by rw[hd];exact⟨_,h7⟩)
end
attribute [local irreducible] AC Do St
theorem wz{p q:Prop}(k:q)(hs:Wk q→p:=by
  intro k
  try (first | intro K ms hms hK | intro K hK)
  repeat (first
   | refine Ch.no rfl rfl ?_
   | refine Ch.iX rfl rfl ?_
   | ((first | apply Ch.go | apply Ch.ah);exact rfl;exact rfl;first
     | exact Loc.move (v:= .d _) rfl rfl
     | exact Loc.assign (v:= .d _) rfl rfl
     | exact Loc.xr rfl rfl
     | exact Loc.oy rfl rfl
     | exact Loc.u7 rfl rfl
     | exact Loc.eC (id:=215) rfl rfl rfl rfl
     | exact Loc.c7 rfl rfl rfl rfl
     | exact Loc.cU rfl rfl rfl
     | exact Loc.cY rfl rfl rfl
     | exact Loc.cV rfl rfl
     | exact Loc.bh (v:= .d _) rfl rfl rfl
     | exact Loc.bk (v:= .d _) rfl rfl rfl
     | exact Loc.cz rfl rfl rfl rfl (by kernel_rfl)
     | exact Loc.cZ rfl rfl rfl
     | exact Loc.cQ rfl rfl rfl rfl
     | exact Loc.ea rfl rfl rfl rfl (by assumption) rfl
     | exact Loc.fN rfl rfl
     | exact Loc.fP rfl rfl
     | exact Loc.fM rfl rfl rfl
     | exact Loc.len rfl rfl
     | exact Loc.eb rfl rfl rfl (by omega)
     | exact Loc.eG rfl rfl rfl (by omega)
     | exact Loc.ec rfl rfl rfl (by omega)
     | exact Loc.eE rfl rfl rfl (by omega)
     | exact Loc.eP rfl rfl rfl (by omega)
     | exact Loc.eM rfl rfl rfl (by omega)
     | exact Loc.eD rfl rfl rfl (by omega)
     | exact Loc.eF rfl rfl rfl (by omega)
     | exact Loc.add rfl rfl rfl (IntWalk.i64_in _ (by omega))
     | exact Loc.sub rfl rfl rfl (IntWalk.i64_in _ (by omega))
     | exact Loc.fL rfl rfl
     | exact Loc.fJ rfl rfl
     | exact Loc.cW rfl rfl rfl
     | exact Loc.c8 rfl rfl rfl (by assumption) rfl
     | exact Loc.cB rfl rfl rfl rfl rfl (by omega) rfl
     | exact Loc.move (v:= .g _) rfl rfl
     | exact Loc.move (v:= .p _ _) rfl rfl
     | exact Loc.move (v:= .r _ _) rfl rfl
     | exact Loc.move (v:= .t _) rfl rfl
     | exact Loc.assign (v:= .g _) rfl rfl
     | exact Loc.assign (v:= .r _ _) rfl rfl
     | exact Loc.assign (v:= .p _ _) rfl rfl
     | exact Loc.extract (v:= .d _) rfl rfl rfl rfl
     | exact Loc.extract (v:= .g _) rfl rfl rfl rfl
     | exact Loc.bh (v:= .g _) rfl rfl rfl
     | exact Loc.bk (v:= .g _) rfl rfl rfl
     | exact Loc.move (v:= .un) rfl rfl
     | exact Loc.build rfl rfl rfl rfl
     | exact Loc.df rfl rfl rfl rfl rfl rfl rfl
     | exact Loc.sub rfl rfl rfl (mu (by omega) (by omega))
     | exact Loc.mul rfl rfl rfl (IntWalk.i64_in _ (by omega))
     | exact Loc.sub rfl rfl rfl (AH (by omega) (by omega))
     | exact Loc.conv rfl rfl (IntWalk.i64_in _ (by omega))
     | exact Loc.oV rfl rfl (by kernel_rfl)
     | exact Loc.qI rfl rfl rfl rfl (by assumption) (by kernel_rfl)
     | exact Loc.qE rfl rfl rfl (by first | assumption | exact rfl)
     | exact Loc.qD rfl rfl rfl (by first | assumption | decide)
     | exact Loc.qH rfl rfl rfl (by first | assumption | decide)
     | exact Loc.qF rfl rfl rfl (by first | assumption | exact rfl)
     | exact Loc.AP rfl rfl rfl (by kernel_rfl) rfl
     | exact Loc.AL rfl rfl rfl (by kernel_rfl) rfl
     | (focus (refine Loc.eI (by assumption) rfl ?_;(repeat (first | exact trivial | refine⟨.inl rfl,?_⟩ | refine⟨.inr rfl,?_⟩));done))
     | (focus (refine Loc.jh (by assumption) rfl ?_;(repeat (first | exact trivial | refine⟨.inl rfl,?_⟩ | refine⟨.inr rfl,?_⟩));done))
     | (focus (refine Loc.mU (by assumption) rfl ?_;(repeat (first | exact trivial | refine⟨.inl rfl,?_⟩ | refine⟨.inr rfl,?_⟩));done))
     | (focus (refine Loc.ot (by assumption) rfl ?_ (gm KSt.st (by assumption) rfl);(repeat (first | exact trivial | refine⟨.inl rfl,?_⟩ | refine⟨.inr rfl,?_⟩));done))
     | (focus (refine Loc.oz (by assumption) rfl ?_ (gm KSt.st (by assumption) rfl);(repeat (first | exact trivial | refine⟨.inl rfl,?_⟩ | refine⟨.inr rfl,?_⟩));done))
     | (focus (refine Loc.lf (by assumption) rfl ?_ (gm KSt.st (by assumption) rfl);(repeat (first | exact trivial | refine⟨.inl rfl,?_⟩ | refine⟨.inr rfl,?_⟩));done)))
   | refine Ch.eO (hK _ ?_)
   | ((first | apply Ch.st | apply Ch.aU);exact rfl;exact rfl;(first
     | exact Do.dt (id:=215) rfl rfl rfl rfl rfl rfl rfl rfl
     | exact Do.aC rfl rfl rfl rfl .g rfl rfl rfl
     | exact Do.aC rfl rfl rfl rfl .d rfl rfl rfl
     | exact Do.aC rfl rfl rfl rfl (.r rfl) rfl rfl rfl);exact rfl;exact rfl)
   | ((first | apply Ch.ef | apply Ch.bU);exact rfl;exact rfl;(first
     | exact Do.alloc rfl rfl rfl
     | exact Do.box rfl rfl rfl .g rfl
     | exact Do.box rfl rfl rfl .d rfl
     | exact Do.fI rfl rfl
     | exact Do.ck rfl rfl rfl rfl rfl rfl (by first | omega | (simp;omega))
     | exact Do.bS rfl rfl rfl rfl rfl rfl);exact rfl;exact rfl)
   | refine Ch.fK (by rw[hms];kernel_rfl) (hK _ ?_)
   | refine Ch.iY rfl rfl ?_
   | refine AC.seq ?_
   | (refine AC.mm (by decide+kernel) ?_;intro K hK)
   | (refine AC.ox (by decide+kernel) ?_;intro K hK)
   | refine AC.jg rfl ?_
   | refine AC.ji rfl ?_
   | refine AC.block ?_
   | refine AC.exit ?_
   | refine AC.ret ?_
   | refine AC.skip ?_)
  first
   | exact k.out
   | (revert K;exact k.out)
   | (revert K ms;exact k.out)):p:=hs ⟨k⟩
def plOK(x:Value)(n:Nat):Prop:=(x= .slice none 0 0∧n=0)∨∃ b c,x=iV b n c
theorem plOK.one{x:Value}{n:Nat}(h:plOK x n):x.oneCell'=true:=by
 rcases h with ⟨rfl,_⟩ | ⟨b,c,rfl⟩<;>rfl
theorem plOK.of{x:Value}{xs:List (List D)}{n:Nat}(h:xs=[]∨∃ b c,x=iV b xs.length c)(hn:xs.length=n)(h0:0<n):plOK x n:=by
 subst hn;rcases h with rfl | h
 ·simp at h0
 ·exact .inr h
def qj(b:Nat)(i:Int)(x:Value)(bad:Bool)(ats:List At):List (Value×ej):=[(aT b 0,fm b 196 (rE i x bad)),(x,kU x 157 5 (ats.map fG))]
def lU(x:Value)(ats:List At):AO:=gF x 157 5 (ats.map fG)
theorem od{b:Nat}{i:Int}{x:Value}{bad:Bool}{ats:List At}{i0 i1:Nat}{O:List (Nat×AO)}(h0:af O i0=some (pb b i x bad))(h1:af O i1=some (lU x ats)):∀ j (_:j<(qj b i x bad ats).length) (_:j<[i0,i1].length),af O [i0,i1][j]=some (.own (qj b i x bad ats)[j].1 (qj b i x bad ats)[j].2):=fun j h _=>by
 match j,h with
 | 0,_=>exact h0
 | 1,_=>exact h1
 | j+2,h=>exact absurd h (by simp[qj])
def Ar(b:Nat)(i:Int)(bad:Bool)(ats:List At)(f:FT):List (Value×ej)→List DV→Prop:=fun post res=>∃ x,plOK x ats.length∧post=qj b i x bad ats∧res=[.g (aM f)]
theorem ix{P:Program}{σ:AS}{rs:List ResultVar}{nt b:Nat}{i:Int}{x:Value}{bad:Bool}{ats:List At}{f:FT}(h0:af σ.objs (nt+100+0)=some (pb b i x bad))(h1:af σ.objs (nt+100+1)=some (lU x ats))(hx:plOK x ats.length)(hr:ressX P σ rs [.g (aM f)]):∃ post res,Ar b i bad ats f post res∧post.length=2∧ressX P σ rs res∧∀ j (h:j<post.length),af σ.objs (nt+100+j)=some (.own post[j].1 post[j].2):=
 ⟨_,_,⟨x,hx,rfl,rfl⟩,rfl,hr,fun j h=>by
  match j,h with
  | 0,_=>exact h0
  | 1,_=>exact h1
  | j+2,h=>exact absurd h (by simp[qj])⟩
theorem Bh(hw:List UInt8):((((DataW.map []:DataW Unit).put (.string [110,111,116]) (.lit (.int .i64 2))).put (.string [97,110,100]) (.lit (.int .i64 3))).put (.string [111,114]) (.lit (.int .i64 4))).atKey (.string hw) (.lit (.int .i64 0))= .lit (.int .i64 (aD hw)):=by
 rw[show ((((DataW.map []:DataW Unit).put (.string [110,111,116]) (.lit (.int .i64 2))).put (.string [97,110,100]) (.lit (.int .i64 3))).put (.string [111,114]) (.lit (.int .i64 4)))= .map [(.string [97,110,100],.lit (.int .i64 3)),(.string [110,111,116],.lit (.int .i64 2)),(.string [111,114],.lit (.int .i64 4))]from by rfl];unfold aD;by_cases h1:hw=[97,110,100]
 ·subst h1;rfl
 by_cases h2:hw=[110,111,116]
 ·subst h2;rfl
 by_cases h3:hw=[111,114]
 ·subst h3;rfl
 rw[if_neg h2,if_neg h1,if_neg h3];have g1:([97,110,100]==hw)=false:=by simpa using fun h=>h1 h.symm
 have g2:([110,111,116]==hw)=false:=by simpa using fun h=>h2 h.symm
 have g3:([111,114]==hw)=false:=by simpa using fun h=>h3 h.symm
 simp[DataW.atKey,Lit.sameKey,List.find?,g1,g2,g3]
theorem Ed(hw:List UInt8):((((((DataW.map []:DataW Unit).put (.string [60,61]) (.lit (.int .i64 1))).put (.string [62,61]) (.lit (.int .i64 1))).put (.string [60]) (.lit (.int .i64 2))).put (.string [62]) (.lit (.int .i64 2))).put (.string [61]) (.lit (.int .i64 3))).atKey (.string hw) (.lit (.int .i64 0))= .lit (.int .i64 (dh hw)):=by
 rw[show ((((((DataW.map []:DataW Unit).put (.string [60,61]) (.lit (.int .i64 1))).put (.string [62,61]) (.lit (.int .i64 1))).put (.string [60]) (.lit (.int .i64 2))).put (.string [62]) (.lit (.int .i64 2))).put (.string [61]) (.lit (.int .i64 3)))= .map [(.string [60],.lit (.int .i64 2)),(.string [60,61],.lit (.int .i64 1)),(.string [61],.lit (.int .i64 3)),(.string [62],.lit (.int .i64 2)),(.string [62,61],.lit (.int .i64 1))]from by rfl];unfold dh;by_cases h1:hw=[60,61]
 ·subst h1;rfl
 by_cases h2:hw=[62,61]
 ·subst h2;rfl
 by_cases h3:hw=[60]
 ·subst h3;rfl
 by_cases h4:hw=[62]
 ·subst h4;rfl
 by_cases h5:hw=[61]
 ·subst h5;rfl
 rw[if_neg (by simp[h1,h2]),if_neg (by simp[h3,h4]),if_neg h5];have g1:([60,61]==hw)=false:=by simpa using fun h=>h1 h.symm
 have g2:([62,61]==hw)=false:=by simpa using fun h=>h2 h.symm
 have g3:([60]==hw)=false:=by simpa using fun h=>h3 h.symm
 have g4:([62]==hw)=false:=by simpa using fun h=>h4 h.symm
 have g5:([61]==hw)=false:=by simpa using fun h=>h5 h.symm
 simp[DataW.atKey,Lit.sameKey,List.find?,g1,g2,g3,g4,g5]
theorem C9(w:List UInt8)(h:w.length≤20000):keyOf Tryz.prog 9 (.string (tx w))=some (.string w):=by
 have hu:(Tryz.prog).underlying 9=some .string:=by kernel_rfl
 have hm:(tx w).size≤maxLen:=by rw[aB];unfold maxLen;omega
 unfold keyOf;rw[hu];show mapKey Tryz.prog _ _=_;unfold mapKey;rw[hu];show (if (tx w).size≤maxLen then _ else _)=_;rw[if_pos hm];rfl
theorem AW{w:List UInt8}{l:List ST}(h:kQ l):(aG (.mk false w l)).1.length≤20000:=by
 cases l with
 | nil=>exact Nat.zero_le _
 | cons x r=>
   have:=iZ (ca h x (by simp));unfold aG;dsimp only;split
   ·exact this
   ·exact Nat.zero_le _
theorem lF(i:Int)(y:ST):∀ (l:List ST) (n:Nat),az i (l++[y]) n=((az i l n).1++[(aE i y (n+(az i l n).2.1.length)).1],(az i l n).2.1++(aE i y (n+(az i l n).2.1.length)).2.1,(az i l n).2.2&&(aE i y (n+(az i l n).2.1.length)).2.2)
 | [],n=>by rw[List.nil_append,eh,bK,bK];simp
 | x::r,n=>by
   rw[List.cons_append,eh,lF i y r,eh];simp only[List.length_append,Nat.add_assoc,List.cons_append,List.append_assoc,Bool.and_assoc]
theorem Eg(i:Int)(w:List UInt8)(l:List ST)(n:Nat):aE i (.mk false w l) n=if aD (aG (.mk false w l)).1≠0 then(.mk (aD (aG (.mk false w l)).1) 0 (az i (aG (.mk false w l)).2 n).1,(az i (aG (.mk false w l)).2 n).2.1,(az i (aG (.mk false w l)).2 n).2.2&&!(decide (aD (aG (.mk false w l)).1=2)&&!decide ((aG (.mk false w l)).2.length=1)))else jc n (dY i (aG (.mk false w l)).1 (aG (.mk false w l)).2):=by
 cases l with
 | nil=>rw[mA];rfl
 | cons h t=>
   rw[ll];by_cases hb:h.b=true
   ·rw[if_pos hb,show aG (.mk false w (h::t))=(h.w,t)from if_pos hb]
   ·rw[if_neg hb,show aG (.mk false w (h::t))=([],[])from if_neg hb];rfl
theorem rK(i:Int)(l:List ST)(hl:∀ x∈l,∀n,(aE i x n).2.1.length≤cX x):∀ n,(az i l n).2.1.length≤aK l:=by
 induction l with
 | nil=>intro n;rw[bK];exact Nat.zero_le _
 | cons x r ih=>
   intro n;rw[eh,aj,List.length_append];exact Nat.add_le_add (hl x (by simp) n) (ih (fun y hy=>hl y (by simp[hy])) _)
theorem uK(i:Int):∀ (m:Nat) (s:ST),wX s<m→∀ n,(aE i s n).2.1.length≤cX s:=by
 intro m
 induction m with
 | zero=>intro s h;omega
 | succ m ih=>
 intro s hs n;obtain⟨b,w,l⟩:=s;rw[bt]at hs;rw[aY];cases b with
 | true=>
   rw[mI];split
   ·exact Nat.zero_le _
   ·split<;>exact Nat.zero_le _
 | false=>
   cases l with
   | nil=>rw[mA];exact Nat.zero_le _
   | cons h t=>
     rw[ll,aj];have:=rK i t (fun x hx=>ih x (by have:=(aO (List.mem_cons_of_mem h hx)).1;omega)) n;split
     ·split
      ·dsimp only;omega
      ·cases dY i h.w t with
       | none=>exact Nat.zero_le _
       | some a=>simp[jc]
     ·exact Nat.zero_le _
inductive fbX:ST→Prop where
 | small {s:ST} (h:kX s≤40000000):fbX s
 | sub {b:Bool} {w:List UInt8} {l:List ST} (hk:aD (aG (.mk b w l)).1≠0) (h:∀ x∈l,fbX x):fbX (.mk b w l)
theorem fbX.part{b:Bool}{w:List UInt8}{l:List ST}(h:fbX (.mk b w l)):∀ x∈l,aD (aG (.mk b w l)).1≠0→fbX x:=fun x hx _=>by
 cases h with
 | small h=>exact .small (Nat.le_trans (nX hx) h)
 | sub _ h=>exact h x hx
theorem fbX.leaf{b:Bool}{w:List UInt8}{l:List ST}(h:fbX (.mk b w l))(hk:¬ aD (aG (.mk b w l)).1≠0):kX (.mk b w l)≤40000000:=by
 cases h with
 | small h=>exact h
 | sub h1 _=>exact absurd h1 hk
