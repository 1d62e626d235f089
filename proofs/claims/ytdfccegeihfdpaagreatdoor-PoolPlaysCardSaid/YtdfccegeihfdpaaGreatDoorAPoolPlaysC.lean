/-
  PoolPlays is true for all numbers, frames and calls: whatever is called, the pool answers as the document says, has its frames and its dirty pages, and the log has forced what it says.
-/
import Derived.Test.YtdfccegeihfdpaaGreatDoorAPhG
import Derived.Test.YtdfccegeihfdpaaGreatDoorAPoolPlaysFx
import Derived.Test.YtdfccegeihfdpaaGreatDoorAOpen
set_option maxRecDepth 100000
namespace Go.Proofs.YtdfccegeihfdpaaGreatDoor
open Go Go.ChangeShapes Go.WideShapes Go.ChangeAt Go.RowKit
theorem poolPlays_lifted(os:Os)(started:os.Started)(H:Type)(enc:TypeId×Value→H):
 ReturnsInHanded {} Tryz.checked os 7 .any (fun w args=>(Rows.poolPlaysSpec.pre enc Tryz.prog Tryz.f7 Rows.poolPlaysRow.domain false w args∧laidMetH Tryz.prog laid0 w)∧sizedMet enc Tryz.prog Tryz.f7 (OpenSpec.ofChange Rows.poolPlaysSpec) false w args)
  (Rows.poolPlaysSpec.post enc Tryz.prog Tryz.f7 false true false false):=by
 refine returnsInHanded_of_change_and (C:=Tryz.checked) (X:=fun w _=>laidMetH Tryz.prog laid0 w) (fun _ _ _ hh h=>h.of_heap hh) own_knob started (by kernel_rfl) Tryz.func7
  (ChangeSpec.witness_shaped (enc:=enc) (C:=Tryz.checked) (os:=os) (X:=fun w _=>laidMetH Tryz.prog laid0 w) false (World.laidAll Tryz.prog os laid0) #[.int .i64 0,.int .i64 0,.slice none 0 0] 8 (World.laidAll_os _ _ _)
    (World.shaped_of_ZipB (by kernel_rfl) (by kernel_rfl)) (by kernel_rfl) (by kernel_rfl) (by kernel_rfl)
    (by rw[MakeChecks.laidMetH_plain _ _ _ (by kernel_rfl)];exact laidMet_laidAll _ (by kernel_rfl) (by kernel_rfl))) ?_
 intro W base args ds gs before hval0 hW _ _ hL _;have hval:∀(j:Nat) t v,Tryz.f7.params[j]? =some t→args[j]? =some v→Value.okWide Tryz.prog W .any base t v:=hval0;have hW':=hW;obtain⟨p,q,hA0,hV,rfl,_,_⟩:=hW;have hA:DataW.TrodAll enc Tryz.prog W 0 (fun _=>true) true Tryz.f7.params.toList args.toList ds p:=hA0
 rw[Tryz.params7]at hA hval;obtain⟨v0,v1,v2,d0,d1,d2,p0,p1,p2,rfl,rfl,rfl,h0,h1,h2⟩:=trodAll_three hA;obtain⟨rfl,rfl⟩:=trodVars_none hV;obtain⟨i0,rfl,_,_,_⟩:=open_int Tryz.underlying3 (hval 0 3 v0 rfl rfl) h0;obtain⟨i1,rfl,_,_,_⟩:=open_int Tryz.underlying3 (hval 1 3 v1 rfl rfl) h1;obtain⟨A,n,c,L,rfl,hn,hE⟩:=open_pcalls (hval 2 55 v2 rfl rfl) h2;have hH:=half_of_laid hL;simp only[List.append_nil]at hW';refine((poolPlays_in i0 i1 hE hn hH hH.lt).mono fun e W9 h=>And.intro h.1 (h.2.toBelow fun k hk=>Nat.not_le.2 hk)).mono fun e W' ⟨he,hb⟩=> ?_
 exact⟨_,he,law_post laid_out (by rw[Tryz.params7];intro t ht;simp at ht;rcases ht with rfl | rfl | rfl<;>exact⟨by kernel_rfl,of_decide_eq_true (by kernel_rfl)⟩) rfl (by simpa using hW') rfl rfl Tryz.underlying4 hb⟩
theorem poolPlays_named:Tryz.prog.funcNamed "troth/trothlaw12.PoolPlays"=some 7:=by kernel_rfl
theorem poolPlays_inst:Tryz.f7.isInstance Tryz.prog Rows.poolPlaysRow.origin Rows.poolPlaysRow.targs:=of_decide_eq_true (by kernel_rfl)
theorem poolPlays_wrap:Tryz.f7.isWrapper Tryz.prog Rows.poolPlaysRow.wrapper Rows.poolPlaysRow.mainSum:=by unfold Func.isWrapper;first | (rw[if_pos (by decide +kernel)];kernel_rfl) | (rw[if_neg (by decide +kernel)];exact⟨rfl,rfl⟩)
theorem poolPlays_holds:Rows.PoolPlaysSaid:=
 OpenClaim.holds_of_wide 7 Tryz.f7 rfl rfl rfl rfl rfl rfl rfl ⟨rfl,rfl,rfl,rfl,rfl⟩ rfl rfl rfl rfl rfl poolPlays_named Tryz.func7 poolPlays_facts
  poolPlays_inst poolPlays_wrap
  (fun os started H enc _=>poolPlays_lifted os started H enc)
theorem poolPlays_wf:Rows.poolPlaysRow.wfByText (OpenSpec.ofChange Rows.poolPlaysSpec)=true:=by kernel_rfl
theorem poolPlays_main:Tryz.prog.mainIs=some (true,("2488b91465a5dcd83e2b1a07aeec636176e80929914c95b785f3899025dc3ea6":String).toList):=by kernel_rfl
theorem poolPlays_looks:(true:Bool)=Tryz.prog.looks []:=by kernel_rfl
theorem poolPlays_stand:([3,3,55].all fun u=> !Tryz.prog.wantsStandIn u)=true:=by kernel_rfl
theorem poolPlays_goes:false=Rows.poolPlaysRow.goesBy Tryz.prog:=by kernel_rfl
theorem poolPlays_card:Rows.PoolPlaysCardSaid:=
 Claim7.holds_tied_plain_at .later [] [.data] true (true,"2488b91465a5dcd83e2b1a07aeec636176e80929914c95b785f3899025dc3ea6") true poolPlays_holds (fun _ h=>by cases h) poolPlays_wf (fun _ h=>by cases h) poolPlays_row_tie rfl ⟨rfl,rfl⟩ poolPlays_main rfl
  (fun f fn hf hfn=>by
    obtain rfl:f=7:=Option.some.inj (poolPlays_named.symm.trans hf) |>.symm;obtain rfl:fn=Tryz.f7:=(Option.some.inj (Tryz.func7.symm.trans hfn)).symm
    exact⟨poolPlays_looks,fun j t ht=>by
     rw[Tryz.params7]at ht;have hm:t∈[3,3,55]:=by simpa using Array.mem_of_getElem? ht
     exact(show Tryz.prog.wantsStandIn t=false by simpa using List.all_eq_true.1 poolPlays_stand t hm)⟩)
  poolPlays_goes
end Go.Proofs.YtdfccegeihfdpaaGreatDoor
