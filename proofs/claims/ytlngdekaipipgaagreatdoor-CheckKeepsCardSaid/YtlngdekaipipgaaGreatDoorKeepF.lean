/-
  CheckKeeps is true for every number, all rows and all dirty pages: what is kept is the document's.
  Conditions: the package's table crc.half reads as the row lays it (tied to the program's text by the card).
-/
import Derived.Test.YtlngdekaipipgaaGreatDoorKeepE
import Derived.Test.YtlngdekaipipgaaGreatDoorKeepFx
import Derived.Test.YtlngdekaipipgaaGreatDoorOpenRow
import Derived.Test.YtlngdekaipipgaaGreatDoorLaid
namespace Go.Proofs.YtlngdekaipipgaaGreatDoor
open Go Go.ChangeShapes Go.WideShapes Go.ChangeAt Go.RowKit

set_option maxRecDepth 100000 in
theorem checkKeeps_lifted (os : Os) (started : os.Started) (H : Type) (enc : TypeId × Value → H) :
    ReturnsInHanded {} Tryz.checked os 5 .any (fun w args => (Rows.checkKeepsSpec.pre enc Tryz.prog Tryz.f5 Rows.checkKeepsRow.domain false w args ∧ laidMetH Tryz.prog laid0 w) ∧ sizedMet enc Tryz.prog Tryz.f5 (OpenSpec.ofChange Rows.checkKeepsSpec) false w args)
      (Rows.checkKeepsSpec.post enc Tryz.prog Tryz.f5 false true false false) := by
  refine returnsInHanded_of_change_and (C := Tryz.checked) (X := fun w _ => laidMetH Tryz.prog laid0 w) (fun _ _ _ hh h => h.of_heap hh) own_knob started (by kernel_rfl) Tryz.func5
    (ChangeSpec.witness_shaped (enc := enc) (C := Tryz.checked) (os := os) (X := fun w _ => laidMetH Tryz.prog laid0 w) false (World.laidAll Tryz.prog os laid0) #[.int .i64 0, .slice none 0 0, .slice none 0 0] 8 (World.laidAll_os _ _ _)
      (World.shaped_of_ZipB (by kernel_rfl) (by kernel_rfl)) (by kernel_rfl) (by kernel_rfl) (by kernel_rfl)
      (by rw [MakeChecks.laidMetH_plain _ _ _ (by kernel_rfl)]; exact laidMet_laidAll _ (by kernel_rfl) (by kernel_rfl))) ?_
  intro W base args ds gs before hval0 hW _ _ hL _
  have hval : ∀ (j : Nat) t v, Tryz.f5.params[j]? = some t → args[j]? = some v → Value.okWide Tryz.prog W .any base t v := hval0
  have hW' := hW
  obtain ⟨p, q, hA0, hV, rfl, _, _⟩ := hW
  have hA : DataW.TrodAll enc Tryz.prog W 0 (fun _ => true) true Tryz.f5.params.toList args.toList ds p := hA0
  rw [Tryz.params5] at hA hval
  obtain ⟨v0, v1, v2, d0, d1, d2, p0, p1, p2, rfl, rfl, rfl, h0, h1, h2⟩ := trodAll_three hA
  obtain ⟨rfl, rfl⟩ := trodVars_none hV
  obtain ⟨x0, rfl, _, _, _⟩ := open_int Tryz.underlying3 (hval 0 3 v0 rfl rfl) h0
  obtain ⟨L, hE1⟩ := open_els 8 RowV.cells (by omega) RowV.cells_len Tryz.underlying45 (hval 1 45 v1 rfl rfl) (by kernel_rfl) h1 fun n cs y hl hy => row_open hl hy
  obtain ⟨D, hE2⟩ := open_els 2 dirtyCells (by omega) dirtyCells_len Tryz.underlying46 (hval 2 46 v2 rfl rfl) (by kernel_rfl) h2 fun n cs y hl hy => dirty_open hl hy
  have hH := half_of_laid hL
  simp only [List.append_nil] at hW'
  refine (checkKeeps_walk x0 v1 v2 L D W hH hE1 hE2).mono fun e W' ⟨he, hb⟩ => ?_
  exact ⟨_, he, law_post laid_out (by rw [Tryz.params5]; intro t ht; simp at ht; rcases ht with rfl | rfl | rfl <;> exact ⟨by kernel_rfl, of_decide_eq_true (by kernel_rfl)⟩) rfl (by simpa using hW') rfl rfl Tryz.underlying4 hb⟩



theorem checkKeeps_named : Tryz.prog.funcNamed "troth/trothlaw17.CheckKeeps" = some 5 := by kernel_rfl
theorem checkKeeps_inst : Tryz.f5.isInstance Tryz.prog Rows.checkKeepsRow.origin Rows.checkKeepsRow.targs := of_decide_eq_true (by kernel_rfl)
theorem checkKeeps_wrap : Tryz.f5.isWrapper Tryz.prog Rows.checkKeepsRow.wrapper Rows.checkKeepsRow.mainSum := by unfold Func.isWrapper; first | (rw [if_pos (by decide +kernel)]; kernel_rfl) | (rw [if_neg (by decide +kernel)]; exact ⟨rfl, rfl⟩)
theorem checkKeeps_holds : Rows.CheckKeepsSaid :=
  OpenClaim.holds_of_wide 5 Tryz.f5 rfl rfl rfl rfl rfl rfl rfl ⟨rfl, rfl, rfl, rfl, rfl⟩ rfl rfl rfl rfl rfl checkKeeps_named Tryz.func5 checkKeeps_facts
    checkKeeps_inst checkKeeps_wrap
    (fun os started H enc _ => checkKeeps_lifted os started H enc)
theorem checkKeeps_wf : Rows.checkKeepsRow.wfByText (OpenSpec.ofChange Rows.checkKeepsSpec) = true := by kernel_rfl
theorem checkKeeps_main : Tryz.prog.mainIs = some (true, ("3de2d20a9926c04fd2c429e8d6a1dd56c306f726f2aecf37006369d962905aea" : String).toList) := by kernel_rfl
theorem checkKeeps_looks : (true : Bool) = Tryz.prog.looks [] := by kernel_rfl
theorem checkKeeps_stand : ([3, 45, 46].all fun u => !Tryz.prog.wantsStandIn u) = true := by kernel_rfl
theorem checkKeeps_goes : false = Rows.checkKeepsRow.goesBy Tryz.prog := by kernel_rfl
theorem checkKeeps_card : Rows.CheckKeepsCardSaid :=
  Claim7.holds_tied_plain_at .later [] [.data] true (true, "3de2d20a9926c04fd2c429e8d6a1dd56c306f726f2aecf37006369d962905aea") true checkKeeps_holds (fun _ h => by cases h) checkKeeps_wf (fun _ h => by cases h) checkKeeps_row_tie rfl ⟨rfl, rfl⟩ checkKeeps_main rfl
    (fun f fn hf hfn => by
      obtain rfl : f = 5 := Option.some.inj (checkKeeps_named.symm.trans hf) |>.symm
      obtain rfl : fn = Tryz.f5 := (Option.some.inj (Tryz.func5.symm.trans hfn)).symm
      exact ⟨checkKeeps_looks, fun j t ht => by
        rw [Tryz.params5] at ht
        have hm : t ∈ [3, 45, 46] := by simpa using Array.mem_of_getElem? ht
        exact (show Tryz.prog.wantsStandIn t = false by simpa using List.all_eq_true.1 checkKeeps_stand t hm)⟩)
    checkKeeps_goes
end Go.Proofs.YtlngdekaipipgaaGreatDoor
