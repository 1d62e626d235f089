/-
  WalMarks is true for all records and numbers: behind Mark the record that is to be kept, and all behind it, are there, no more sheets are used than were, and none of the others that is there is another one.
-/
import Derived.Test.YtljmmkjdlcfkpaaGreatDoorMWvH
import Derived.Test.YtljmmkjdlcfkpaaGreatDoorMWalMarksFx
import Derived.Test.YtljmmkjdlcfkpaaGreatDoorMOpen
set_option maxRecDepth 100000
namespace Go.Proofs.YtljmmkjdlcfkpaaGreatDoor
open Go Go.ChangeShapes Go.WideShapes Go.ChangeAt Go.RowKit
theorem walMarks_lifted(os:Os)(started:os.Started)(H:Type)(enc:TypeId×Value→H):
 ReturnsInHanded {} Tryz.checked os 6 .any (fun w args=>(Rows.walMarksSpec.pre enc Tryz.prog Tryz.f6 Rows.walMarksRow.domain false w args∧laidMetH Tryz.prog laid0 w)∧sizedMet enc Tryz.prog Tryz.f6 (OpenSpec.ofChange Rows.walMarksSpec) false w args)
  (Rows.walMarksSpec.post enc Tryz.prog Tryz.f6 false true false false):=by
 refine returnsInHanded_of_change_and (C:=Tryz.checked) (X:=fun w _=>laidMetH Tryz.prog laid0 w) (fun _ _ _ hh h=>h.of_heap hh) own_knob started (by kernel_rfl) Tryz.func6
  (ChangeSpec.witness_shaped (enc:=enc) (C:=Tryz.checked) (os:=os) (X:=fun w _=>laidMetH Tryz.prog laid0 w) false (World.laidAll Tryz.prog os laid0) #[.int .i64 0,.slice none 0 0,.int .i64 0,.int .i64 0] 8 (World.laidAll_os _ _ _)
    (World.shaped_of_ZipB (by kernel_rfl) (by kernel_rfl)) (by kernel_rfl) (by kernel_rfl) (by kernel_rfl)
    (by rw[MakeChecks.laidMetH_plain _ _ _ (by kernel_rfl)];exact laidMet_laidAll _ (by kernel_rfl) (by kernel_rfl))) ?_
 intro W base args ds gs before hval0 hW _ _ hL _;have hval:∀(j:Nat) t v,Tryz.f6.params[j]? =some t→args[j]? =some v→Value.okWide Tryz.prog W .any base t v:=hval0;have hW':=hW;obtain⟨p,q,hA0,hV,rfl,_,_⟩:=hW;have hA:DataW.TrodAll enc Tryz.prog W 0 (fun _=>true) true Tryz.f6.params.toList args.toList ds p:=hA0
 rw[Tryz.params6]at hA hval;obtain⟨al⟩:=args;obtain⟨v0,vs0,d0,ds0,p0,q0,rfl,rfl,rfl,h0,hr0⟩:=trodAll_cons hA;obtain⟨v1,vs1,d1,ds1,p1,q1,rfl,rfl,rfl,h1,hr1⟩:=trodAll_cons hr0;obtain⟨v2,vs2,d2,ds2,p2,q2,rfl,rfl,rfl,h2,hr2⟩:=trodAll_cons hr1;obtain⟨v3,vs3,d3,ds3,p3,q3,rfl,rfl,rfl,h3,hr3⟩:=trodAll_cons hr2;obtain⟨rfl,rfl,rfl⟩:=trodAll_nil hr3;obtain⟨rfl,rfl⟩:=trodVars_none hV;obtain⟨i0,rfl,_,_,_⟩:=open_int Tryz.underlying3 (hval 0 3 v0 rfl rfl) h0;obtain⟨A,n,c,L,rfl,hn,hE,hq⟩:=open_recs (hval 1 51 v1 rfl rfl) h1;obtain⟨i2,rfl,_,_,_⟩:=open_int Tryz.underlying3 (hval 2 3 v2 rfl rfl) h2;obtain⟨i3,rfl,_,_,_⟩:=open_int Tryz.underlying3 (hval 3 3 v3 rfl rfl) h3;have hH:=half_of_laid hL;simp only[List.append_nil]at hW';refine(walMarks_walk i0 hE hn hq i2 i3 hH hH.lt).mono fun e W' ⟨he,hb⟩=> ?_
 exact⟨_,he,law_post laid_out (by rw[Tryz.params6];intro t ht;simp at ht;rcases ht with rfl | rfl | rfl | rfl<;>exact⟨by kernel_rfl,of_decide_eq_true (by kernel_rfl)⟩) rfl (by simpa using hW') rfl rfl Tryz.underlying4 hb⟩
theorem walMarks_named:Tryz.prog.funcNamed "troth/trothlaw09.WalMarks"=some 6:=by kernel_rfl
theorem walMarks_inst:Tryz.f6.isInstance Tryz.prog Rows.walMarksRow.origin Rows.walMarksRow.targs:=of_decide_eq_true (by kernel_rfl)
theorem walMarks_wrap:Tryz.f6.isWrapper Tryz.prog Rows.walMarksRow.wrapper Rows.walMarksRow.mainSum:=by unfold Func.isWrapper;first | (rw[if_pos (by decide +kernel)];kernel_rfl) | (rw[if_neg (by decide +kernel)];exact⟨rfl,rfl⟩)
theorem walMarks_holds:Rows.WalMarksSaid:=
 OpenClaim.holds_of_wide 6 Tryz.f6 rfl rfl rfl rfl rfl rfl rfl ⟨rfl,rfl,rfl,rfl,rfl⟩ rfl rfl rfl rfl rfl walMarks_named Tryz.func6 walMarks_facts
  walMarks_inst walMarks_wrap
  (fun os started H enc _=>walMarks_lifted os started H enc)
theorem walMarks_wf:Rows.walMarksRow.wfByText (OpenSpec.ofChange Rows.walMarksSpec)=true:=by kernel_rfl
theorem walMarks_main:Tryz.prog.mainIs=some (true,("dbb0b9aaa4b6279b9f2ccfef0d48baf33e219118686ef7f6c53846bcf3f420b5":String).toList):=by kernel_rfl
theorem walMarks_looks:(true:Bool)=Tryz.prog.looks []:=by kernel_rfl
theorem walMarks_stand:([3,51,3,3].all fun u=> !Tryz.prog.wantsStandIn u)=true:=by kernel_rfl
theorem walMarks_goes:false=Rows.walMarksRow.goesBy Tryz.prog:=by kernel_rfl
theorem walMarks_card:Rows.WalMarksCardSaid:=
 Claim7.holds_tied_plain_at .later [] [.data] true (true,"dbb0b9aaa4b6279b9f2ccfef0d48baf33e219118686ef7f6c53846bcf3f420b5") true walMarks_holds (fun _ h=>by cases h) walMarks_wf (fun _ h=>by cases h) walMarks_row_tie rfl ⟨rfl,rfl⟩ walMarks_main rfl
  (fun f fn hf hfn=>by
    obtain rfl:f=6:=Option.some.inj (walMarks_named.symm.trans hf) |>.symm;obtain rfl:fn=Tryz.f6:=(Option.some.inj (Tryz.func6.symm.trans hfn)).symm
    exact⟨walMarks_looks,fun j t ht=>by
     rw[Tryz.params6]at ht;have hm:t∈[3,51,3,3]:=by simpa using Array.mem_of_getElem? ht
     exact(show Tryz.prog.wantsStandIn t=false by simpa using List.all_eq_true.1 walMarks_stand t hm)⟩)
  walMarks_goes
end Go.Proofs.YtljmmkjdlcfkpaaGreatDoor
