import Derived.Test.YtbbpecfapohlaaaGreatDoorSmK
set_option maxRecDepth 100000
set_option maxHeartbeats 8000000
namespace Go.Proofs.YtbbpecfapohlaaaGreatDoor
open Go.RowKit
attribute [local irreducible] AC Do St
theorem Loc.addMv{P:Program}{C:Cx}{o:Oper}{σ:AS}{T T':TypeId}{x y:Operand}{k:IntKind}{a b m:Int}(ho:o.op= .binOp .add T x y T')(hx:ev σ x= .d (.v (.int k a)))(hy:ev σ y= .d (.v (.int k b)))(hr:k.wrap (a+b)=m):Loc P C o σ (.d (.v (.int k m))):=
 Loc.bin ho hx hy (fun w=>by cases k<;>simp[binOp,Op.intArith,hr]) rfl
def filI(l:List Int)(n:Nat):List Int:=l++List.replicate (n-l.length) 0
theorem filI_len{l:List Int}{n:Nat}(h:l.length≤n):(filI l n).length=n:=by unfold filI;rw[List.length_append,List.length_replicate];omega
theorem filI_set{l:List Int}{n:Nat}(v:Int)(h:l.length<n):(filI l n).set l.length v=filI (l++[v]) n:=by
 unfold filI;rw[List.set_append_right _ _ (Nat.le_refl _),Nat.sub_self,List.length_append,show n-l.length=(n-(l.length+[v].length))+1 by simp;omega,List.replicate_succ,List.set_cons_zero,List.append_assoc];rfl
theorem filI_at{l:List Int}{n k:Nat}(h:k<l.length):(filI l n)[k]?=some (l[k]?.getD 0):=by
 unfold filI;rw[List.getElem?_append_left h,List.getElem?_eq_getElem h];rfl
theorem filI_zero{l:List Int}{n:Nat}(h:l.length<n):(filI l n)[l.length]?=some 0:=by
 unfold filI;rw[List.getElem?_append_right (Nat.le_refl _),Nat.sub_self,List.getElem?_replicate,if_pos (by omega)]
theorem filI_end{l:List Int}{n:Nat}(h:l.length=n):filI l n=l:=by unfold filI;rw[h,Nat.sub_self];simp
theorem tidS_shut{b k:Int}{i:Nat}{a:At}(s:List At×List Int)(h:canL a.e.t=[]):tidS b k i a s=(s.1,s.2++[if sayB a.op a.e.c=true then big40 else-big40]):=by unfold tidS;rw[h]
theorem tidS_old{b k:Int}{i:Nat}{a:At}(s:List At×List Int){v:Int}{c:Rat}{l:List Tm}(h:canL a.e.t=(v,c)::l)(hk:k<i):tidS b k i a s=(s.1,s.2++[s.2[k.toNat]?.getD 0]):=by unfold tidS;rw[h];dsimp only;rw[if_pos hk]
theorem tidS_new{b k:Int}{i:Nat}{a:At}(s:List At×List Int){v:Int}{c:Rat}{l:List Tm}(h:canL a.e.t=(v,c)::l)(hk:¬ k<i):tidS b k i a s=(s.1++[canA a c],s.2++[b+s.1.length+1]):=by unfold tidS;rw[h];dsimp only;rw[if_neg hk]
theorem TI.rng{p:SP}(hp:OkSP p){i:Nat}{s:List At×List Int}(T:TI p i s)(hi:i≤p.a.length)(hb:0≤p.b)(hb1:p.b≤1000):∀ v∈s.2,-1099511627776≤v∧v≤1099511627776:=fun v hv=>by
 have han:=hp.an;obtain⟨j,hj,rfl⟩:=List.getElem_of_mem hv;have hji:j<i:=by rw[←T.n];exact hj
 have hjn:j<p.a.length:=by omega
 have hg:=List.getElem?_eq_getElem hj;cases hc:canL p.a[j].e.t with
 | nil=>
   have:=T.shut j hji hjn hc;rw[hg]at this;injection this with this;rw[this];unfold big40;split<;>omega
 | cons t l=>
   obtain⟨k,k1,k2⟩:=T.opn j hji hjn t.1 t.2 l hc;rw[hg]at k1;injection k1 with k1;rw[k1];have hk:k<s.1.length:=by
    rw[List.getElem?_eq_some_iff]at k2;exact k2.1
   have:=T.m;omega
theorem renC_cases(b:Int)(ts c:List Int):(renC b ts c=none∧∃ x,renR b ts c=[x,.d (.v (.bool false))]∧(x= .d (.l [])∨∃ y,x= .d (enZ y)))∨∃ y,renC b ts c=some y∧renR b ts c=[.d (enZ y),.d (.v (.bool true))]:=by
 unfold renC renR;by_cases h1:big40∈c.map (renV b ts)
 ·rw[if_pos h1,if_pos h1];exact .inl ⟨rfl,_,rfl,.inl rfl⟩
 ·rw[if_neg h1,if_neg h1];by_cases h2:altB (canI (renL b ts c))=true
  ·rw[if_pos h2,h2];exact .inl ⟨rfl,_,rfl,.inr ⟨_,rfl⟩⟩
  ·rw[if_neg h2,Bool.eq_false_iff.2 h2];exact .inr ⟨_,rfl,rfl⟩
theorem fm_snoc{b:Int}{ts:List Int}{c:List (List Int)}{i:Nat}(h:i<c.length):(c.take (i+1)).filterMap (renC b ts)=match renC b ts c[i]with | none=>(c.take i).filterMap (renC b ts) | some y=>(c.take i).filterMap (renC b ts)++[y]:=by
 rw[List.take_succ_eq_append_getElem h,List.filterMap_append];cases hr:renC b ts c[i]with
 | none=>simp[List.filterMap,hr]
 | some y=>simp[List.filterMap,hr]
theorem tidiedF(p:SP)(hp:OkSP p)(hl:Loose p):FnK Tryz.prog 61 Tab [.g (enSP p)] [.g (enSP (tidP p))]:=by
 have han:=hp.an;have hcn:=hp.cn;have hb0:=hl.b;have hb1:p.b≤1000:=Int.not_lt.1 fun h=>hl.g (.inr (.inl h));have hT:=fun i (hi:i≤p.a.length)=>TI.all hp (fun a h=>(hl.a a h).1) i hi;have hpl:=placesT p.a hp.a (by omega);have hplT:=fun i (hi:i<p.a.length)=>plT_at hp (fun a h=>(hl.a a h).1) hi;have hOk:=hp.a;have hop:=fun a h=>(hl.a a h).1;have hren:∀ c∈p.c,Fn Tryz.prog 118 [.d (.v (.int .i64 p.b)),.d (enZ (tidA p p.a.length).2),.d (enZ c)] (renR p.b (tidA p p.a.length).2 c):=fun c hc=>by
  have T:=hT p.a.length (Nat.le_refl _);refine renamedF p.b _ c hb0 hb1 (by rw[T.n];omega) (by have:=(hp.cl c hc).1;omega) (fun l h=>⟨(hl.c c hc l h).1,by rw[T.n];exact(hl.c c hc l h).2⟩) (T.rng hp (Nat.le_refl _) hb0 hb1) fun l h=>?_;rcases ren_ok hp hl (hl.c c hc l h)with h1 | h1 | h1
  ·exact .inl h1
  ·exact .inr (.inl h1)
  ·exact .inr (.inr h1.1.1)
 have htid:tidP p=⟨p.r,p.b,(tidA p p.a.length).1,p.c.filterMap (renC p.b (tidA p p.a.length).2)⟩:=rfl;rw[htid];clear htid hl hp;have hlp:((p.a.map (plT p.a)).map ivT).length=p.a.length:=by rw[List.length_map,List.length_map]
 have hgp:∀ i (h:i<p.a.length),(p.a.map (plT p.a))[i]?=some (plT p.a p.a[i]):=fun i h=>by rw[List.getElem?_map,List.getElem?_eq_getElem h];rfl
 generalize p.a.map (plT p.a)=P at hpl hlp hgp;have hlP:(P.map ivT).length=P.length:=List.length_map ..;have hPl:P.length=p.a.length:=by omega
 have hla:(p.a.map enA).length=p.a.length:=List.length_map ..;have hlc:(p.c.map enCl).length=p.c.length:=List.length_map ..;refine FnK.of Tryz.func61 rfl (by kernel_rfl) Tryz.ntmps61 Tryz.results61 rfl fun w0 S0 hK0=>?_;refine wk ?_;((try (first | intro K ms hms hK | intro K hK));(first | apply Chain.ef | apply Chain.efD);exact rfl;exact rfl;exact Do.makeM (f:=zI) (0:Int) p.a.length p.a.length rfl rfl rfl rfl rfl rfl (Nat.le_refl _) (by omega);exact rfl;exact rfl);refine wa ?_;refine AC.rowBox 3 2 100 108 5 rfl rfl rfl ?_;refine AC.loop (X:=Nat×Nat) (fun x=>⟨[(1,.p 1 0),(2,.p 2 0),(3,.p 3 0),(4,.r 22 0),(25,.d (.l (P.map ivT))),(26,.d (.v (.int .i64 (P.length:Int)))),(27,.d (.v (.int .i64 (x.1:Int))))],[(1,.box 29 ((enSP p).map .d)),(2,.box 29 [.d (.v (.int .i64 0)),.d (.v (.int .i64 0)),.d .n,.d .n]),(3,.box 29 [.d (.v (.int .i64 p.r)),.d (.v (.int .i64 p.b)),.r 100 x.2,.d .n]),(100,.row x.2 108 5 ((tidA p x.1).1.map enA)),(22,.row 0 3 1 ((filI (tidA p x.1).2 p.a.length).map zI))]⟩) (fun x=>x.1≤p.a.length) (fun x=>p.a.length-x.1) (0,0) (Nat.zero_le _) ⟨rfl,rfl,rfl,rfl,rfl,rfl,rfl,trivial⟩ ⟨rfl,rfl,rfl,rfl,rfl,trivial⟩ ?_;intro ⟨i,n⟩ hi;dsimp only at hi ⊢;by_cases h5:i<p.a.length
 ·have hx:=List.getElem?_eq_getElem h5;have hm:=List.getElem_mem h5;have hy:=hgp i h5;have hyl:i<P.length:=by omega
  have T:=hT i hi;have hsucc:=tidA_succ p h5;obtain⟨k,e1,e2,_⟩:=hplT i h5;have hok:=hOk _ hm;have ho:=hop _ hm;rw[e1]at hy hsucc;have tn:=T.n;have tm:=T.m;clear hT hplT hpl hOk hop hren T hgp e1;generalize p.a[i]=x at hx hm hsucc hok ho;generalize tidA p i=s at hsucc tn tm ⊢;obtain⟨S,L⟩:=s;dsimp only at hsucc tn tm ⊢;subst tn;have hfl:(filI L p.a.length).length=p.a.length:=filI_len hi;have hfs:=fun v=>filI_set v h5;have hfz:=filI_zero h5;have hfa:=fun k (h:k<L.length)=>filI_at (n:=p.a.length) h;have hfm:((filI L p.a.length).map zI).length=p.a.length:=by rw[List.length_map];exact hfl
  generalize filI L p.a.length=F at hfl hfs hfz hfa hfm ⊢;have hlS:(S.map enA).length=S.length:=List.length_map ..;rcases lead_can x.e with ⟨hl,h0⟩ | ⟨v,c,l,hl,h0⟩
  ·have hc:=canNum x 6682 ho hok.sm.t (by have:=hok.sm.n;omega) h0;have hs:=tidS_shut (b:=p.b) (k:=(k:Int)) (i:=L.length) (S,L) h0;rw[hs]at hsucc;cases hb:sayB x.op x.e.c with
   | true=>
     rw[hb]at hc hsucc;simp only[if_true]at hc hsucc;refine wa ?_;((try (first | intro K ms hms hK | intro K hK));(first | apply Chain.st | apply Chain.stD);exact rfl;exact rfl;exact Do.setM (big40) rfl rfl rfl hfz rfl rfl rfl rfl rfl rfl;exact rfl;exact rfl);refine wa ?_;exact⟨(L.length+1,n),h5,by dsimp only;omega,⟨rfl,rfl,rfl,rfl,rfl,rfl,rfl,trivial⟩,⟨rfl,rfl,rfl,by dsimp only;rw[hsucc];rfl,by dsimp only;rw[hsucc,←hfs];rfl,trivial⟩⟩
   | false=>
     rw[hb]at hc hsucc;simp only[if_false,Bool.false_eq_true]at hc hsucc;refine wa ?_;((try (first | intro K ms hms hK | intro K hK));(first | apply Chain.st | apply Chain.stD);exact rfl;exact rfl;exact Do.setM (-big40) rfl rfl rfl hfz rfl rfl rfl rfl rfl rfl;exact rfl;exact rfl);refine wa ?_;exact⟨(L.length+1,n),h5,by dsimp only;omega,⟨rfl,rfl,rfl,rfl,rfl,rfl,rfl,trivial⟩,⟨rfl,rfl,rfl,by dsimp only;rw[hsucc];rfl,by dsimp only;rw[hsucc,←hfs];rfl,trivial⟩⟩
  ·have hne:=(leadQ_ne hl).1;have hc:=hok.canP ho h0 hne;by_cases hk:k<L.length
   ·have hs:=tidS_old (b:=p.b) (k:=(k:Int)) (i:=L.length) (S,L) h0 (by omega);rw[hs,Int.toNat_natCast]at hsucc;have hgk:=hfa k hk;dsimp only at hsucc;generalize L[k]?.getD 0=u at hsucc hgk;generalize canA x c=y at hc;refine wa ?_;have hgz:(F.map zI)[k]?=some (zI u):=by rw[List.getElem?_map,hgk];rfl
    ((try (first | intro K ms hms hK | intro K hK));(first | apply Chain.go | apply Chain.goD);exact rfl;exact rfl;exact Loc.loadE1 rfl rfl rfl hgz rfl);refine wa ?_;((try (first | intro K ms hms hK | intro K hK));(first | apply Chain.st | apply Chain.stD);exact rfl;exact rfl;exact Do.setM u rfl rfl rfl hfz rfl rfl rfl rfl rfl rfl;exact rfl;exact rfl);refine wa ?_;exact⟨(L.length+1,n),h5,by dsimp only;omega,⟨rfl,rfl,rfl,rfl,rfl,rfl,rfl,trivial⟩,⟨rfl,rfl,rfl,by dsimp only;rw[hsucc];rfl,by dsimp only;rw[hsucc,←hfs];rfl,trivial⟩⟩
   ·have hs:=tidS_new (b:=p.b) (k:=(k:Int)) (i:=L.length) (S,L) h0 (by omega);rw[hs]at hsucc;obtain rfl:k=L.length:=by omega
    dsimp only at hsucc;generalize canA x c=y at hc hsucc;have hSa:(S++[y]).map enA=S.map enA++[enA y]:=by rw[List.map_append];rfl
    have hSl:(S.map enA++[enA y]).length=S.length+1:=by rw[List.length_append,hlS];rfl
    refine wa ?_;((try (first | intro K ms hms hK | intro K hK));(first | apply Chain.go | apply Chain.goD);exact rfl;exact rfl;exact Loc.addMv (m:=p.b+S.length+1) rfl rfl rfl (by simp only[List.length_append,hlS,List.length_cons,List.length_nil];rw[IntWalk.i64_in _ (by omega)];omega));refine wa ?_;((try (first | intro K ms hms hK | intro K hK));(first | apply Chain.st | apply Chain.stD);exact rfl;exact rfl;exact Do.setM (p.b+S.length+1) rfl rfl rfl hfz rfl rfl rfl rfl rfl rfl;exact rfl;exact rfl);refine wa ?_;exact⟨(L.length+1,n+1),h5,by dsimp only;omega,⟨rfl,rfl,rfl,rfl,rfl,rfl,rfl,trivial⟩,⟨rfl,rfl,rfl,by dsimp only;rw[hsucc,hSa];rfl,by dsimp only;rw[hsucc,←hfs];rfl,trivial⟩⟩
 ·obtain rfl:i=p.a.length:=by omega
  have T:=hT _ (Nat.le_refl _);have tn:=T.n;clear hT hplT hpl hOk hop hgp T;generalize tidA p p.a.length=s at hren tn ⊢;obtain⟨S,L⟩:=s;dsimp only at hren tn ⊢;rw[filI_end tn];refine AC.frzVar 4 rfl rfl ?_;refine wa ?_;refine AC.rowBox 3 3 103 55 1 rfl rfl rfl ?_;refine AC.loop (X:=Nat×Nat) (fun x=>⟨[(1,.p 1 0),(2,.p 2 0),(3,.p 3 0),(4,.d (enZ L)),(82,.d (.l (p.c.map enCl))),(83,.d (.v (.int .i64 (p.c.length:Int)))),(84,.d (.v (.int .i64 (x.1:Int))))],[(1,.box 29 ((enSP p).map .d)),(2,.box 29 [.d (.v (.int .i64 0)),.d (.v (.int .i64 0)),.d .n,.d .n]),(3,.box 29 [.d (.v (.int .i64 p.r)),.d (.v (.int .i64 p.b)),.r 100 n,.r 103 x.2]),(100,.row n 108 5 (S.map enA)),(103,.row x.2 55 1 (((p.c.take x.1).filterMap (renC p.b L)).map enCl))]⟩) (fun x=>x.1≤p.c.length) (fun x=>p.c.length-x.1) (0,0) (Nat.zero_le _) ⟨rfl,rfl,rfl,rfl,rfl,rfl,rfl,trivial⟩ ⟨rfl,rfl,rfl,rfl,rfl,trivial⟩ ?_;intro ⟨j,m⟩ hj;dsimp only at hj ⊢;by_cases h6:j<p.c.length
  ·have hx:=List.getElem?_eq_getElem h6;have hre:=hren _ (List.getElem_mem h6);have hfm:=fm_snoc (b:=p.b) (ts:=L) h6;have hlen:((p.c.take j).filterMap (renC p.b L)).length≤j:=Nat.le_trans (List.length_filterMap_le _ _) (by rw[List.length_take];omega);generalize p.c[j]=x at hx hre hfm;generalize (p.c.take j).filterMap (renC p.b L)=G at hfm hlen ⊢;clear hren;have hlG:(G.map enCl).length=G.length:=List.length_map ..;rcases renC_cases p.b L x with ⟨r1,y,r2,r3⟩ | ⟨y,r1,r2⟩
   ·rw[r1]at hfm;rw[r2]at hre;rcases r3 with rfl | ⟨z,rfl⟩
    ·refine wa ?_;exact⟨(j+1,m),h6,by dsimp only;omega,⟨rfl,rfl,rfl,rfl,rfl,rfl,rfl,trivial⟩,⟨rfl,rfl,rfl,rfl,by dsimp only;rw[hfm];rfl,trivial⟩⟩
    ·refine wa ?_;exact⟨(j+1,m),h6,by dsimp only;omega,⟨rfl,rfl,rfl,rfl,rfl,rfl,rfl,trivial⟩,⟨rfl,rfl,rfl,rfl,by dsimp only;rw[hfm];rfl,trivial⟩⟩
   ·rw[r1]at hfm;rw[r2]at hre;dsimp only at hfm;have hGa:(G++[y]).map enCl=G.map enCl++[enCl y]:=by rw[List.map_append];rfl
    refine wa ?_;exact⟨(j+1,m+1),h6,by dsimp only;omega,⟨rfl,rfl,rfl,rfl,rfl,rfl,rfl,trivial⟩,⟨rfl,rfl,rfl,rfl,by dsimp only;rw[hfm,hGa];rfl,trivial⟩⟩
  ·rw[List.take_of_length_le (by omega)];refine AC.frzBox 3 2 rfl rfl rfl ?_;refine AC.frzBox 3 3 rfl rfl rfl ?_;refine wa ?_;exact⟨.cn rfl rfl inferInstance rfl ⟨.inl rfl,.inl rfl,.inl rfl,.inl rfl,trivial⟩,trivial⟩
end Go.Proofs.YtbbpecfapohlaaaGreatDoor
