/-
  LoadActs is true for every seed and every mix: whether a mix may be, and its load, are the document's, or the error; the same seed makes the same load.
  Conditions: the three tables of the library that the row lists read as the row lays them (tied to the program's text by the card); none of them is read on this road.
-/
import Derived.Test.YtlboobboacjnmaaDoorLoadW
import Derived.Test.YtlboobboacjnmaaDoorLoadFx
namespace Go.Proofs.YtlboobboacjnmaaDoor
open Go Go.ChangeShapes Go.WideShapes Go.ChangeAt Go.RowKit

set_option maxRecDepth 100000 in
theorem loadActs_lifted (os : Os) (started : os.Started) (H : Type) (enc : TypeId × Value → H) :
    ReturnsInHanded {} Tryd.checked os 3 .any (fun w args => (Rows.loadActsSpec.pre enc Tryd.prog Tryd.f3 Rows.loadActsRow.domain false w args ∧ laidMetH Tryd.prog laid3 w) ∧ sizedMet enc Tryd.prog Tryd.f3 (OpenSpec.ofChange Rows.loadActsSpec) false w args)
      (Rows.loadActsSpec.post enc Tryd.prog Tryd.f3 false true false false) := by
  refine returnsInHanded_of_change_and (C := Tryd.checked) (X := fun w _ => laidMetH Tryd.prog laid3 w) (fun _ _ _ hh h => h.of_heap hh) own_knob started (by kernel_rfl) Tryd.func3
    (ChangeSpec.witness_shaped (enc := enc) (C := Tryd.checked) (os := os) (X := fun w _ => laidMetH Tryd.prog laid3 w) false (World.laidAll Tryd.prog os laid3) #[.int .u64 0, .agg #[.int .i64 0, .int .i64 0, .int .i64 0, .int .i64 0, .int .i64 0, .int .i64 0, .int .i64 0, .int .i64 0]] 8 (World.laidAll_os _ _ _)
      (World.shaped_of_ZipB (by kernel_rfl) (by kernel_rfl)) (by kernel_rfl) (by kernel_rfl) (by kernel_rfl)
      (by rw [MakeChecks.laidMetH_plain _ _ _ (by kernel_rfl)]; exact laidMet_laidAll _ (by kernel_rfl) (by kernel_rfl))) ?_
  intro W base args ds gs before hval0 hW _ _ hL _
  have hval : ∀ (j : Nat) t v, Tryd.f3.params[j]? = some t → args[j]? = some v → Value.okWide Tryd.prog W .any base t v := hval0
  have hW' := hW
  obtain ⟨p, q, hA0, hV, rfl, _, _⟩ := hW
  have hA : DataW.TrodAll enc Tryd.prog W 0 (fun _ => true) true Tryd.f3.params.toList args.toList ds p := hA0
  rw [Tryd.params3] at hA hval
  obtain ⟨v0, v1, d0, d1, p0, p1, rfl, rfl, rfl, h0, h1⟩ := trodAll_two hA
  obtain ⟨rfl, rfl⟩ := trodVars_none hV
  obtain ⟨x0, rfl, _, _, _⟩ := open_int Tryd.underlying22 (hval 0 22 v0 rfl rfl) h0
  obtain ⟨m, rfl⟩ := open_mix (hval 1 24 v1 rfl rfl) h1
  simp only [List.append_nil] at hW'
  refine (loadActs_walk x0 m W).mono fun e W' ⟨he, hb⟩ => ?_
  exact ⟨_, he, law_post laid_out (by rw [Tryd.params3]; intro t ht; simp at ht; rcases ht with rfl | rfl <;> exact ⟨by kernel_rfl, of_decide_eq_true (by kernel_rfl)⟩) rfl (by simpa using hW') rfl rfl Tryd.underlying4 hb⟩



theorem loadActs_named : Tryd.prog.funcNamed "troth/trothlaw30.LoadActs" = some 3 := by kernel_rfl
theorem loadActs_inst : Tryd.f3.isInstance Tryd.prog Rows.loadActsRow.origin Rows.loadActsRow.targs := of_decide_eq_true (by kernel_rfl)
theorem loadActs_wrap : Tryd.f3.isWrapper Tryd.prog Rows.loadActsRow.wrapper Rows.loadActsRow.mainSum := by unfold Func.isWrapper; first | (rw [if_pos (by decide +kernel)]; kernel_rfl) | (rw [if_neg (by decide +kernel)]; exact ⟨rfl, rfl⟩)
theorem loadActs_holds : Rows.LoadActsSaid :=
  OpenClaim.holds_of_wide 3 Tryd.f3 rfl rfl rfl rfl rfl rfl rfl ⟨rfl, rfl, rfl, rfl, rfl⟩ rfl rfl rfl rfl rfl loadActs_named Tryd.func3 loadActs_facts
    loadActs_inst loadActs_wrap
    (fun os started H enc _ => loadActs_lifted os started H enc)
theorem loadActs_wf : Rows.loadActsRow.wfByText (OpenSpec.ofChange Rows.loadActsSpec) = true := by kernel_rfl
theorem loadActs_main : Tryd.prog.mainIs = some (true, ("284d1887ec53e91f768be5ee46aa58773a3972957de6f2747bf64ec46e9ded7b" : String).toList) := by kernel_rfl
theorem loadActs_looks : (false : Bool) = Tryd.prog.looks [] := by kernel_rfl
theorem loadActs_stand : ([22, 24].all fun u => !Tryd.prog.wantsStandIn u) = true := by kernel_rfl
theorem loadActs_goes : false = Rows.loadActsRow.goesBy Tryd.prog := by kernel_rfl
theorem loadActs_card : Rows.LoadActsCardSaid :=
  Claim7.holds_tied_plain_at .later [] [.data, .data, .data] true (true, "284d1887ec53e91f768be5ee46aa58773a3972957de6f2747bf64ec46e9ded7b") false loadActs_holds (fun _ h => by cases h) loadActs_wf (fun _ h => by cases h) loadActs_row_tie rfl ⟨rfl, rfl⟩ loadActs_main rfl
    (fun f fn hf hfn => by
      obtain rfl : f = 3 := Option.some.inj (loadActs_named.symm.trans hf) |>.symm
      obtain rfl : fn = Tryd.f3 := (Option.some.inj (Tryd.func3.symm.trans hfn)).symm
      exact ⟨loadActs_looks, fun j t ht => by
        rw [Tryd.params3] at ht
        have hm : t ∈ [22, 24] := by simpa using Array.mem_of_getElem? ht
        exact (show Tryd.prog.wantsStandIn t = false by simpa using List.all_eq_true.1 loadActs_stand t hm)⟩)
    loadActs_goes
end Go.Proofs.YtlboobboacjnmaaDoor
