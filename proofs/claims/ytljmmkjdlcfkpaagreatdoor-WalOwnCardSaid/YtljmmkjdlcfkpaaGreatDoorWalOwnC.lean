/-
  WalOwn is true for every record: whoever writes into what was handed in, or answered, changes no record.
  Conditions: the package's table crc.half reads as the row lays it (tied to the program's text by the card).
-/
import Derived.Test.YtljmmkjdlcfkpaaGreatDoorWtB
import Derived.Test.YtljmmkjdlcfkpaaGreatDoorWalOwnFx
import Derived.Test.YtljmmkjdlcfkpaaGreatDoorOpenRecE
import Derived.Test.YtljmmkjdlcfkpaaGreatDoorLaidW
namespace Go.Proofs.YtljmmkjdlcfkpaaGreatDoor
open Go Go.ChangeShapes Go.WideShapes Go.ChangeAt Go.RowKit

set_option maxRecDepth 100000 in
theorem walOwn_lifted (os : Os) (started : os.Started) (H : Type) (enc : TypeId × Value → H) :
    ReturnsInHanded {} Tryz.checked os 4 .any (fun w args => (Rows.walOwnSpec.pre enc Tryz.prog Tryz.f4 Rows.walOwnRow.domain false w args ∧ laidMetH Tryz.prog laid0 w) ∧ sizedMet enc Tryz.prog Tryz.f4 (OpenSpec.ofChange Rows.walOwnSpec) false w args)
      (Rows.walOwnSpec.post enc Tryz.prog Tryz.f4 false true false false) := by
  refine returnsInHanded_of_change_and (C := Tryz.checked) (X := fun w _ => laidMetH Tryz.prog laid0 w) (fun _ _ _ hh h => h.of_heap hh) own_knob started (by kernel_rfl) Tryz.func4
    (ChangeSpec.witness_shaped (enc := enc) (C := Tryz.checked) (os := os) (X := fun w _ => laidMetH Tryz.prog laid0 w) false (World.laidAll Tryz.prog os laid0) #[.agg #[.int .i64 0, .int .i64 0, .int .i64 0, .int .i64 0, .string ⟨#[]⟩, .bool false, .string ⟨#[]⟩, .bool false, .string ⟨#[]⟩, .int .i64 0, .slice none 0 0, .slice none 0 0, .slice none 0 0, .slice none 0 0, .slice none 0 0, .slice none 0 0]] 8 (World.laidAll_os _ _ _)
      (World.shaped_of_ZipB (by kernel_rfl) (by kernel_rfl)) (by kernel_rfl) (by kernel_rfl) (by kernel_rfl)
      (by rw [MakeChecks.laidMetH_plain _ _ _ (by kernel_rfl)]; exact laidMet_laidAll _ (by kernel_rfl) (by kernel_rfl))) ?_
  intro W base args ds gs before hval0 hW _ _ hL _
  have hval : ∀ (j : Nat) t v, Tryz.f4.params[j]? = some t → args[j]? = some v → Value.okWide Tryz.prog W .any base t v := hval0
  have hW' := hW
  obtain ⟨p, q, hA0, hV, rfl, _, _⟩ := hW
  have hA : DataW.TrodAll enc Tryz.prog W 0 (fun _ => true) true Tryz.f4.params.toList args.toList ds p := hA0
  rw [Tryz.params4] at hA hval
  obtain ⟨v0, d0, rfl, rfl, h0⟩ := trodAll_one hA
  obtain ⟨rfl, rfl⟩ := trodVars_none hV
  obtain ⟨x, s, rfl, hE⟩ := open_recE (hval 0 38 v0 rfl rfl) h0
  have hH := half_of_laid hL
  simp only [List.append_nil] at hW'
  refine (walOwn_walk x s hE hH hH.lt).mono fun e W' ⟨he, hb⟩ => ?_
  exact ⟨_, he, law_post laid_out (by rw [Tryz.params4]; intro t ht; simp at ht; subst ht <;> exact ⟨by kernel_rfl, of_decide_eq_true (by kernel_rfl)⟩) rfl (by simpa using hW') rfl rfl Tryz.underlying4 hb⟩



theorem walOwn_named : Tryz.prog.funcNamed "troth/trothlaw09.WalOwn" = some 4 := by kernel_rfl
theorem walOwn_inst : Tryz.f4.isInstance Tryz.prog Rows.walOwnRow.origin Rows.walOwnRow.targs := of_decide_eq_true (by kernel_rfl)
theorem walOwn_wrap : Tryz.f4.isWrapper Tryz.prog Rows.walOwnRow.wrapper Rows.walOwnRow.mainSum := by unfold Func.isWrapper; first | (rw [if_pos (by decide +kernel)]; kernel_rfl) | (rw [if_neg (by decide +kernel)]; exact ⟨rfl, rfl⟩)
theorem walOwn_holds : Rows.WalOwnSaid :=
  OpenClaim.holds_of_wide 4 Tryz.f4 rfl rfl rfl rfl rfl rfl rfl ⟨rfl, rfl, rfl, rfl, rfl⟩ rfl rfl rfl rfl rfl walOwn_named Tryz.func4 walOwn_facts
    walOwn_inst walOwn_wrap
    (fun os started H enc _ => walOwn_lifted os started H enc)
theorem walOwn_wf : Rows.walOwnRow.wfByText (OpenSpec.ofChange Rows.walOwnSpec) = true := by kernel_rfl
theorem walOwn_main : Tryz.prog.mainIs = some (true, ("dbb0b9aaa4b6279b9f2ccfef0d48baf33e219118686ef7f6c53846bcf3f420b5" : String).toList) := by kernel_rfl
theorem walOwn_looks : (true : Bool) = Tryz.prog.looks [] := by kernel_rfl
theorem walOwn_stand : ([38].all fun u => !Tryz.prog.wantsStandIn u) = true := by kernel_rfl
theorem walOwn_goes : false = Rows.walOwnRow.goesBy Tryz.prog := by kernel_rfl
theorem walOwn_card : Rows.WalOwnCardSaid :=
  Claim7.holds_tied_plain_at .later [] [.data] true (true, "dbb0b9aaa4b6279b9f2ccfef0d48baf33e219118686ef7f6c53846bcf3f420b5") true walOwn_holds (fun _ h => by cases h) walOwn_wf (fun _ h => by cases h) walOwn_row_tie rfl ⟨rfl, rfl⟩ walOwn_main rfl
    (fun f fn hf hfn => by
      obtain rfl : f = 4 := Option.some.inj (walOwn_named.symm.trans hf) |>.symm
      obtain rfl : fn = Tryz.f4 := (Option.some.inj (Tryz.func4.symm.trans hfn)).symm
      exact ⟨walOwn_looks, fun j t ht => by
        rw [Tryz.params4] at ht
        have hm : t ∈ [38] := by simpa using Array.mem_of_getElem? ht
        exact (show Tryz.prog.wantsStandIn t = false by simpa using List.all_eq_true.1 walOwn_stand t hm)⟩)
    walOwn_goes
end Go.Proofs.YtljmmkjdlcfkpaaGreatDoor
