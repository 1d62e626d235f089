/-
  WalFull is true for every count and every spare: a log has room for as many sheets as it has sectors, less those that are to be spared; a record that hasn't room is refused, and changes nothing.
  Conditions: the package's table crc.half reads as the row lays it (tied to the program's text by the card).
-/
import Derived.Test.YtljmmkjdlcfkpaaGreatDoorWm10
import Derived.Test.YtljmmkjdlcfkpaaGreatDoorWalFullFx
import Derived.Test.YtljmmkjdlcfkpaaGreatDoorOpen
import Derived.Test.YtljmmkjdlcfkpaaGreatDoorLaid
namespace Go.Proofs.YtljmmkjdlcfkpaaGreatDoor
open Go Go.ChangeShapes Go.WideShapes Go.ChangeAt Go.RowKit

set_option maxRecDepth 100000 in
theorem walFull_lifted (os : Os) (started : os.Started) (H : Type) (enc : TypeId × Value → H) :
    ReturnsInHanded {} Tryz.checked os 3 .any (fun w args => (Rows.walFullSpec.pre enc Tryz.prog Tryz.f3 Rows.walFullRow.domain false w args ∧ laidMetH Tryz.prog laid0 w) ∧ sizedMet enc Tryz.prog Tryz.f3 (OpenSpec.ofChange Rows.walFullSpec) false w args)
      (Rows.walFullSpec.post enc Tryz.prog Tryz.f3 false true false false) := by
  refine returnsInHanded_of_change_and (C := Tryz.checked) (X := fun w _ => laidMetH Tryz.prog laid0 w) (fun _ _ _ hh h => h.of_heap hh) own_knob started (by kernel_rfl) Tryz.func3
    (ChangeSpec.witness_shaped (enc := enc) (C := Tryz.checked) (os := os) (X := fun w _ => laidMetH Tryz.prog laid0 w) false (World.laidAll Tryz.prog os laid0) #[.int .i64 0, .int .i64 0] 8 (World.laidAll_os _ _ _)
      (World.shaped_of_ZipB (by kernel_rfl) (by kernel_rfl)) (by kernel_rfl) (by kernel_rfl) (by kernel_rfl)
      (by rw [MakeChecks.laidMetH_plain _ _ _ (by kernel_rfl)]; exact laidMet_laidAll _ (by kernel_rfl) (by kernel_rfl))) ?_
  intro W base args ds gs before hval0 hW _ _ hL _
  have hval : ∀ (j : Nat) t v, Tryz.f3.params[j]? = some t → args[j]? = some v → Value.okWide Tryz.prog W .any base t v := hval0
  have hW' := hW
  obtain ⟨p, q, hA0, hV, rfl, _, _⟩ := hW
  have hA : DataW.TrodAll enc Tryz.prog W 0 (fun _ => true) true Tryz.f3.params.toList args.toList ds p := hA0
  rw [Tryz.params3] at hA hval
  obtain ⟨v0, v1, d0, d1, p0, p1, rfl, rfl, rfl, h0, h1⟩ := trodAll_two hA
  obtain ⟨rfl, rfl⟩ := trodVars_none hV
  obtain ⟨i0, rfl, _, _, _⟩ := open_int Tryz.underlying3 (hval 0 3 v0 rfl rfl) h0
  obtain ⟨i1, rfl, _, _, _⟩ := open_int Tryz.underlying3 (hval 1 3 v1 rfl rfl) h1
  have hH := half_of_laid hL
  simp only [List.append_nil] at hW'
  refine (walFull_walk i0 i1 W hH).mono fun e W' ⟨he, hb⟩ => ?_
  exact ⟨_, he, law_post laid_out (by rw [Tryz.params3]; intro t ht; simp at ht; rcases ht with rfl | rfl <;> exact ⟨by kernel_rfl, of_decide_eq_true (by kernel_rfl)⟩) rfl (by simpa using hW') rfl rfl Tryz.underlying4 hb⟩



theorem walFull_named : Tryz.prog.funcNamed "troth/trothlaw09.WalFull" = some 3 := by kernel_rfl
theorem walFull_inst : Tryz.f3.isInstance Tryz.prog Rows.walFullRow.origin Rows.walFullRow.targs := of_decide_eq_true (by kernel_rfl)
theorem walFull_wrap : Tryz.f3.isWrapper Tryz.prog Rows.walFullRow.wrapper Rows.walFullRow.mainSum := by unfold Func.isWrapper; first | (rw [if_pos (by decide +kernel)]; kernel_rfl) | (rw [if_neg (by decide +kernel)]; exact ⟨rfl, rfl⟩)
theorem walFull_holds : Rows.WalFullSaid :=
  OpenClaim.holds_of_wide 3 Tryz.f3 rfl rfl rfl rfl rfl rfl rfl ⟨rfl, rfl, rfl, rfl, rfl⟩ rfl rfl rfl rfl rfl walFull_named Tryz.func3 walFull_facts
    walFull_inst walFull_wrap
    (fun os started H enc _ => walFull_lifted os started H enc)
theorem walFull_wf : Rows.walFullRow.wfByText (OpenSpec.ofChange Rows.walFullSpec) = true := by kernel_rfl
theorem walFull_main : Tryz.prog.mainIs = some (true, ("dbb0b9aaa4b6279b9f2ccfef0d48baf33e219118686ef7f6c53846bcf3f420b5" : String).toList) := by kernel_rfl
theorem walFull_looks : (true : Bool) = Tryz.prog.looks [] := by kernel_rfl
theorem walFull_stand : ([3, 3].all fun u => !Tryz.prog.wantsStandIn u) = true := by kernel_rfl
theorem walFull_goes : false = Rows.walFullRow.goesBy Tryz.prog := by kernel_rfl
theorem walFull_card : Rows.WalFullCardSaid :=
  Claim7.holds_tied_plain_at .later [] [.data] true (true, "dbb0b9aaa4b6279b9f2ccfef0d48baf33e219118686ef7f6c53846bcf3f420b5") true walFull_holds (fun _ h => by cases h) walFull_wf (fun _ h => by cases h) walFull_row_tie rfl ⟨rfl, rfl⟩ walFull_main rfl
    (fun f fn hf hfn => by
      obtain rfl : f = 3 := Option.some.inj (walFull_named.symm.trans hf) |>.symm
      obtain rfl : fn = Tryz.f3 := (Option.some.inj (Tryz.func3.symm.trans hfn)).symm
      exact ⟨walFull_looks, fun j t ht => by
        rw [Tryz.params3] at ht
        have hm : t ∈ [3, 3] := by simpa using Array.mem_of_getElem? ht
        exact (show Tryz.prog.wantsStandIn t = false by simpa using List.all_eq_true.1 walFull_stand t hm)⟩)
    walFull_goes
end Go.Proofs.YtljmmkjdlcfkpaaGreatDoor
