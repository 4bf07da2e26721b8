import Derived.Test.YtbbpecfapohlaaaGreatDoorK1
namespace Go.Proofs.YtbbpecfapohlaaaGreatDoor
open Go.RowKit Go.ChangeShapes Go.WideShapes
theorem trodAll_keep{H:Type}{enc:TypeId×Value→H}{P:Program}(hl:laidOutB P=true){W W':World}(hb:Ext W W'):
  ∀(ts:List TypeId) (vs:List Value) (ds:List (DataW H)) (ps:List MemPlace),(∀t∈ts,P.readableRec t=true∧t<P.types.size)→DataW.TrodAll enc P W 0 (fun _=>true) true ts vs ds ps→(∀x∈ps,x.block<W.heap.size)→
   DataW.TrodAll enc P W' 0 (fun b=>decide (b<W.heap.size)) true ts vs ds ps
 | [],[],[],ps,_,h,_=>h
 | t::ts,v::vs,d::ds,ps,ht,h,hp=>by
   obtain⟨p,q,h1,h2,rfl⟩:=h;refine⟨p,q,Below.trod hl (ht t (by simp)).1 (ht t (by simp)).2 h1 hb (fun x hx=>hp x (by simp[hx])),?_,rfl⟩;exact trodAll_keep hl hb ts vs ds q (fun t h=>ht t (by simp[h])) h2 (fun x hx=>hp x (by simp[hx]))
 | [],_::_,_,_,_,h,_=>h.elim
 | [],[],_::_,_,_,h,_=>h.elim
 | _::_,[],_,_,_,h,_=>h.elim
 | _::_,_::_,[],_,_,h,_=>h.elim
theorem law_post{H:Type}{enc:TypeId×Value→H}{P:Program}{f:Func}{s:ChangeSpec}{apart fresh handsOn:Bool}{W W':World}{args:Array Value}{ds gs:List (DataW H)}{before:List MemPlace}(hl:laidOutB P=true)
  (ht:∀ t∈f.params.toList,P.readableRec t=true∧t<P.types.size) {tb:TypeId} (hrt:f.resultTypes= #[tb]) (htb:P.underlying tb=some .bool) (hvars:s.vars=[])
  (hW:DataW.Whole enc P f.params.toList s.vars apart W args.toList ds gs before) (hb:Ext W W')
  (hres:(s.fn H ds).results=[.lit (.bool true)]) (hargs:(s.fn H ds).args=ds) (hvs:(s.fn H ds).vars=[]):
  s.post enc P f apart fresh handsOn false W args (.bool true) W':=by
 have hW':=hW;have hlt:=hW.lt;obtain⟨p,q,hA,hV,rfl,hfz,hnd⟩:=hW;rw[hvars]at hV;obtain⟨rfl,rfl⟩:=trodVars_none hV;simp only[List.append_nil]at*;refine⟨ds,[],p,[],p,[],hW',?_,?_,?_,hb.frame _,fun h=>by cases h⟩
 ·simp only[List.append_nil];rw[hres,hrt];exact trodAll_mk1 (shut_bool htb true)
 ·simp only[List.append_nil];rw[hargs];exact trodAll_keep hl hb _ _ _ _ ht hA hlt
 ·simp only[List.append_nil];rw[hvs,hvars];rfl
end Go.Proofs.YtbbpecfapohlaaaGreatDoor
