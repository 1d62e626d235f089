/-
  The last step of a law: it answered true, and nothing that was there has changed: so its row is met.
-/
import Derived.Test.YtdfccegeihfdpaaGreatDoorRows
import Derived.ProofKit
import Derived.OpenShut
import Derived.Test.YtdfccegeihfdpaaGreatDoorALib
namespace Go.Proofs.YtdfccegeihfdpaaGreatDoor
open Go Go.ChangeShapes Go.WideShapes Go.ChangeAt Go.RowKit
theorem own_knob:ownKnob Tryz.prog.godebug=none:=by kernel_rfl
theorem laid_out:laidOutB Tryz.prog=true:=by kernel_rfl
section
variable {H:Type} {enc:TypeId×Value→H} {P:Program}
theorem trodAll_stays(hl:laidOutB P=true){W W':World}(hb:Below W.heap.size W W'){sp:Nat→Bool}:∀{ts:List TypeId} {vs:List Value} {ds:List (DataW H)} {p:List MemPlace},
 (∀t∈ts,P.readableRec t=true∧t<P.types.size)→DataW.TrodAll enc P W 0 (fun _=>true) true ts vs ds p→(∀x∈p,x.block<W.heap.size)→(∀x∈p,sp x.block=true)→DataW.TrodAll enc P W' 0 sp true ts vs ds p:=by
 intro ts
 induction ts with
 | nil=>
   intro vs ds p _ h _ _;obtain⟨rfl,rfl,rfl⟩:=trodAll_nil h;exact trodAll_mk0
 | cons t ts ih=>
   intro vs ds p hr h hlt hsp;obtain⟨v,vs',d,ds',a,b,rfl,rfl,rfl,h1,h2⟩:=trodAll_cons h;refine trodAll_cons_mk (WideElems.Trod_stays hl (hr t (by simp)).1 (hr t (by simp)).2 h1 (fun x hx=>hb.same (hlt x (by simp[hx]))) (fun x hx=>hsp x (by simp[hx]))) ?_
   exact ih (fun u hu=>hr u (by simp[hu])) h2 (fun x hx=>hlt x (by simp[hx])) (fun x hx=>hsp x (by simp[hx]))
theorem law_post{f:Func}{s:ChangeSpec}{W W':World}{args:Array Value}{ds:List (DataW H)}{before:List MemPlace}{tb:TypeId}
 (hl:laidOutB P=true) (hr:∀t∈f.params.toList,P.readableRec t=true∧t<P.types.size) (hv:s.vars=[])
 (hW:DataW.Whole enc P f.params.toList s.vars false W args.toList ds [] before)
 (hfn:s.fn H (ds++[])={ results:=[.lit (.bool true)],args:=ds }) (hres:f.resultTypes=#[tb]) (htb:P.underlying tb=some .bool) (hb:Below W.heap.size W W'):
 s.post enc P f false true false false W args (.bool true) W':=by
 have hlt:∀p∈before,p.block<W.heap.size:=fun p hp=>hW.lt p hp
 have hW':=hW;obtain⟨p,q,hA,hV,hpq,_,_⟩:=hW;rw[hv]at hV;obtain⟨_,rfl⟩:=trodVars_none hV;simp only[List.append_nil]at hpq;subst hpq;refine⟨ds,[],before,[],before,[],hW',?_,?_,?_,World.keptBut_mono (fun p hp=>⟨hp,Or.inr (Or.inl hp)⟩) (hb.frame (·∈before)),fun h=>by cases h⟩
 ·rw[hfn,hres];exact trodAll_cons_mk (shut_bool htb true) trodAll_mk0
 ·rw[hfn];exact trodAll_stays hl hb hr hA hlt (fun x hx=>by simpa using hlt x hx)
 ·rw[hfn,hv];rfl
end
end Go.Proofs.YtdfccegeihfdpaaGreatDoor
