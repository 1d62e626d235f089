/-
  PoolFrames is true for all numbers, frames and calls: there are never more frames than were asked for; a page that is pinned stays in its frame.
  Conditions: the package's table crc.half reads as the row lays it (tied to the program's text by the card).
-/
import Derived.Test.YtdfccegeihfdpaaGreatDoorPkJ
import Derived.Test.YtdfccegeihfdpaaGreatDoorPoolFramesFx
import Derived.Test.YtdfccegeihfdpaaGreatDoorOpenK
import Derived.Test.YtdfccegeihfdpaaGreatDoorLaidW
namespace Go.Proofs.YtdfccegeihfdpaaGreatDoor
open Go Go.ChangeShapes Go.WideShapes Go.ChangeAt Go.RowKit

set_option maxRecDepth 100000 in
theorem poolFrames_lifted (os : Os) (started : os.Started) (H : Type) (enc : TypeId × Value → H) :
    ReturnsInHanded {} Tryz.checked os 5 .any (fun w args => (Rows.poolFramesSpec.pre enc Tryz.prog Tryz.f5 Rows.poolFramesRow.domain false w args ∧ laidMetH Tryz.prog laid0 w) ∧ sizedMet enc Tryz.prog Tryz.f5 (OpenSpec.ofChange Rows.poolFramesSpec) false w args)
      (Rows.poolFramesSpec.post enc Tryz.prog Tryz.f5 false true false false) := by
  refine returnsInHanded_of_change_and (C := Tryz.checked) (X := fun w _ => laidMetH Tryz.prog laid0 w) (fun _ _ _ hh h => h.of_heap hh) own_knob started (by kernel_rfl) Tryz.func5
    (ChangeSpec.witness_shaped (enc := enc) (C := Tryz.checked) (os := os) (X := fun w _ => laidMetH Tryz.prog laid0 w) false (World.laidAll Tryz.prog os laid0) #[.int .i64 0, .int .i64 0, .slice none 0 0] 8 (World.laidAll_os _ _ _)
      (World.shaped_of_ZipB (by kernel_rfl) (by kernel_rfl)) (by kernel_rfl) (by kernel_rfl) (by kernel_rfl)
      (by rw [MakeChecks.laidMetH_plain _ _ _ (by kernel_rfl)]; exact laidMet_laidAll _ (by kernel_rfl) (by kernel_rfl))) ?_
  intro W base args ds gs before hval0 hW _ _ hL _
  have hval : ∀ (j : Nat) t v, Tryz.f5.params[j]? = some t → args[j]? = some v → Value.okWide Tryz.prog W .any base t v := hval0
  have hW' := hW
  obtain ⟨p, q, hA0, hV, rfl, _, _⟩ := hW
  have hA : DataW.TrodAll enc Tryz.prog W 0 (fun _ => true) true Tryz.f5.params.toList args.toList ds p := hA0
  rw [Tryz.params5] at hA hval
  obtain ⟨v0, v1, v2, d0, d1, d2, p0, p1, p2, rfl, rfl, rfl, h0, h1, h2⟩ := trodAll_three hA
  obtain ⟨rfl, rfl⟩ := trodVars_none hV
  obtain ⟨i0, rfl, _, _, _⟩ := open_int Tryz.underlying3 (hval 0 3 v0 rfl rfl) h0
  obtain ⟨i1, rfl, _, _, _⟩ := open_int Tryz.underlying3 (hval 1 3 v1 rfl rfl) h1
  obtain ⟨A, n, c, L, rfl, hn, hE⟩ := open_pcalls (hval 2 55 v2 rfl rfl) h2
  have hH := half_of_laid hL
  simp only [List.append_nil] at hW'
  refine ((poolFrames_in i0 i1 hE hn hH hH.lt).mono fun e W9 h => And.intro h.1 (h.2.toBelow fun k hk => Nat.not_le.2 hk)).mono fun e W' ⟨he, hb⟩ => ?_
  exact ⟨_, he, law_post laid_out (by rw [Tryz.params5]; intro t ht; simp at ht; rcases ht with rfl | rfl | rfl <;> exact ⟨by kernel_rfl, of_decide_eq_true (by kernel_rfl)⟩) rfl (by simpa using hW') rfl rfl Tryz.underlying4 hb⟩



theorem poolFrames_named : Tryz.prog.funcNamed "troth/trothlaw12.PoolFrames" = some 5 := by kernel_rfl
theorem poolFrames_inst : Tryz.f5.isInstance Tryz.prog Rows.poolFramesRow.origin Rows.poolFramesRow.targs := of_decide_eq_true (by kernel_rfl)
theorem poolFrames_wrap : Tryz.f5.isWrapper Tryz.prog Rows.poolFramesRow.wrapper Rows.poolFramesRow.mainSum := by unfold Func.isWrapper; first | (rw [if_pos (by decide +kernel)]; kernel_rfl) | (rw [if_neg (by decide +kernel)]; exact ⟨rfl, rfl⟩)
theorem poolFrames_holds : Rows.PoolFramesSaid :=
  OpenClaim.holds_of_wide 5 Tryz.f5 rfl rfl rfl rfl rfl rfl rfl ⟨rfl, rfl, rfl, rfl, rfl⟩ rfl rfl rfl rfl rfl poolFrames_named Tryz.func5 poolFrames_facts
    poolFrames_inst poolFrames_wrap
    (fun os started H enc _ => poolFrames_lifted os started H enc)
theorem poolFrames_wf : Rows.poolFramesRow.wfByText (OpenSpec.ofChange Rows.poolFramesSpec) = true := by kernel_rfl
theorem poolFrames_main : Tryz.prog.mainIs = some (true, ("2488b91465a5dcd83e2b1a07aeec636176e80929914c95b785f3899025dc3ea6" : String).toList) := by kernel_rfl
theorem poolFrames_looks : (true : Bool) = Tryz.prog.looks [] := by kernel_rfl
theorem poolFrames_stand : ([3, 3, 55].all fun u => !Tryz.prog.wantsStandIn u) = true := by kernel_rfl
theorem poolFrames_goes : false = Rows.poolFramesRow.goesBy Tryz.prog := by kernel_rfl
theorem poolFrames_card : Rows.PoolFramesCardSaid :=
  Claim7.holds_tied_plain_at .later [] [.data] true (true, "2488b91465a5dcd83e2b1a07aeec636176e80929914c95b785f3899025dc3ea6") true poolFrames_holds (fun _ h => by cases h) poolFrames_wf (fun _ h => by cases h) poolFrames_row_tie rfl ⟨rfl, rfl⟩ poolFrames_main rfl
    (fun f fn hf hfn => by
      obtain rfl : f = 5 := Option.some.inj (poolFrames_named.symm.trans hf) |>.symm
      obtain rfl : fn = Tryz.f5 := (Option.some.inj (Tryz.func5.symm.trans hfn)).symm
      exact ⟨poolFrames_looks, fun j t ht => by
        rw [Tryz.params5] at ht
        have hm : t ∈ [3, 3, 55] := by simpa using Array.mem_of_getElem? ht
        exact (show Tryz.prog.wantsStandIn t = false by simpa using List.all_eq_true.1 poolFrames_stand t hm)⟩)
    poolFrames_goes
end Go.Proofs.YtdfccegeihfdpaaGreatDoor
