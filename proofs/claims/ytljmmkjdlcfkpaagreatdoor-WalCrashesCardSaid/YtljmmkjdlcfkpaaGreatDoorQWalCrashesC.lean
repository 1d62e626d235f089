/-
  WalCrashes is true for all numbers and calls: wherever the power goes, whatever was torn or lost, over any number of crashes, a log that is opened again has all records that were forced, and of the others the first ones.
-/
import Derived.Test.YtljmmkjdlcfkpaaGreatDoorQWxJ
import Derived.Test.YtljmmkjdlcfkpaaGreatDoorQWalCrashesFx
import Derived.Test.YtljmmkjdlcfkpaaGreatDoorQOpen
set_option maxRecDepth 100000
namespace Go.Proofs.YtljmmkjdlcfkpaaGreatDoor
open Go Go.ChangeShapes Go.WideShapes Go.ChangeAt Go.RowKit
theorem walCrashes_lifted(os:Os)(started:os.Started)(H:Type)(enc:TypeId×Value→H):
 ReturnsInHanded {} Tryz.checked os 5 .any (fun w args=>(Rows.walCrashesSpec.pre enc Tryz.prog Tryz.f5 Rows.walCrashesRow.domain false w args∧laidMetH Tryz.prog laid0 w)∧sizedMet enc Tryz.prog Tryz.f5 (OpenSpec.ofChange Rows.walCrashesSpec) false w args)
  (Rows.walCrashesSpec.post enc Tryz.prog Tryz.f5 false true false false):=by
 refine returnsInHanded_of_change_and (C:=Tryz.checked) (X:=fun w _=>laidMetH Tryz.prog laid0 w) (fun _ _ _ hh h=>h.of_heap hh) own_knob started (by kernel_rfl) Tryz.func5
  (ChangeSpec.witness_shaped (enc:=enc) (C:=Tryz.checked) (os:=os) (X:=fun w _=>laidMetH Tryz.prog laid0 w) false (World.laidAll Tryz.prog os laid0) #[.int .i64 0,.slice none 0 0] 8 (World.laidAll_os _ _ _)
    (World.shaped_of_ZipB (by kernel_rfl) (by kernel_rfl)) (by kernel_rfl) (by kernel_rfl) (by kernel_rfl)
    (by rw[MakeChecks.laidMetH_plain _ _ _ (by kernel_rfl)];exact laidMet_laidAll _ (by kernel_rfl) (by kernel_rfl))) ?_
 intro W base args ds gs before hval0 hW _ _ hL _;have hval:∀(j:Nat) t v,Tryz.f5.params[j]? =some t→args[j]? =some v→Value.okWide Tryz.prog W .any base t v:=hval0;have hW':=hW;obtain⟨p,q,hA0,hV,rfl,_,_⟩:=hW;have hA:DataW.TrodAll enc Tryz.prog W 0 (fun _=>true) true Tryz.f5.params.toList args.toList ds p:=hA0
 rw[Tryz.params5]at hA hval;obtain⟨v0,v1,d0,d1,p0,p1,rfl,rfl,rfl,h0,h1⟩:=trodAll_two hA;obtain⟨rfl,rfl⟩:=trodVars_none hV;obtain⟨i0,rfl,_,_,_⟩:=open_int Tryz.underlying3 (hval 0 3 v0 rfl rfl) h0;obtain⟨A,n,c,L,rfl,hn,hE,hq⟩:=open_calls (hval 1 49 v1 rfl rfl) h1;have hH:=half_of_laid hL;simp only[List.append_nil]at hW';refine(walCrashes_walk i0 hE hn hq hH hH.lt).mono fun e W' ⟨he,hb⟩=> ?_
 exact⟨_,he,law_post laid_out (by rw[Tryz.params5];intro t ht;simp at ht;rcases ht with rfl | rfl<;>exact⟨by kernel_rfl,of_decide_eq_true (by kernel_rfl)⟩) rfl (by simpa using hW') rfl rfl Tryz.underlying4 hb⟩
theorem walCrashes_named:Tryz.prog.funcNamed "troth/trothlaw09.WalCrashes"=some 5:=by kernel_rfl
theorem walCrashes_inst:Tryz.f5.isInstance Tryz.prog Rows.walCrashesRow.origin Rows.walCrashesRow.targs:=of_decide_eq_true (by kernel_rfl)
theorem walCrashes_wrap:Tryz.f5.isWrapper Tryz.prog Rows.walCrashesRow.wrapper Rows.walCrashesRow.mainSum:=by unfold Func.isWrapper;first | (rw[if_pos (by decide +kernel)];kernel_rfl) | (rw[if_neg (by decide +kernel)];exact⟨rfl,rfl⟩)
theorem walCrashes_holds:Rows.WalCrashesSaid:=
 OpenClaim.holds_of_wide 5 Tryz.f5 rfl rfl rfl rfl rfl rfl rfl ⟨rfl,rfl,rfl,rfl,rfl⟩ rfl rfl rfl rfl rfl walCrashes_named Tryz.func5 walCrashes_facts
  walCrashes_inst walCrashes_wrap
  (fun os started H enc _=>walCrashes_lifted os started H enc)
theorem walCrashes_wf:Rows.walCrashesRow.wfByText (OpenSpec.ofChange Rows.walCrashesSpec)=true:=by kernel_rfl
theorem walCrashes_main:Tryz.prog.mainIs=some (true,("dbb0b9aaa4b6279b9f2ccfef0d48baf33e219118686ef7f6c53846bcf3f420b5":String).toList):=by kernel_rfl
theorem walCrashes_looks:(true:Bool)=Tryz.prog.looks []:=by kernel_rfl
theorem walCrashes_stand:([3,49].all fun u=> !Tryz.prog.wantsStandIn u)=true:=by kernel_rfl
theorem walCrashes_goes:false=Rows.walCrashesRow.goesBy Tryz.prog:=by kernel_rfl
theorem walCrashes_card:Rows.WalCrashesCardSaid:=
 Claim7.holds_tied_plain_at .later [] [.data] true (true,"dbb0b9aaa4b6279b9f2ccfef0d48baf33e219118686ef7f6c53846bcf3f420b5") true walCrashes_holds (fun _ h=>by cases h) walCrashes_wf (fun _ h=>by cases h) walCrashes_row_tie rfl ⟨rfl,rfl⟩ walCrashes_main rfl
  (fun f fn hf hfn=>by
    obtain rfl:f=5:=Option.some.inj (walCrashes_named.symm.trans hf) |>.symm;obtain rfl:fn=Tryz.f5:=(Option.some.inj (Tryz.func5.symm.trans hfn)).symm
    exact⟨walCrashes_looks,fun j t ht=>by
     rw[Tryz.params5]at ht;have hm:t∈[3,49]:=by simpa using Array.mem_of_getElem? ht
     exact(show Tryz.prog.wantsStandIn t=false by simpa using List.all_eq_true.1 walCrashes_stand t hm)⟩)
  walCrashes_goes
end Go.Proofs.YtljmmkjdlcfkpaaGreatDoor
