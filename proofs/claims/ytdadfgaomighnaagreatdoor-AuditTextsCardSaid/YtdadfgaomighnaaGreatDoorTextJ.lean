/-
  AuditTexts is true for all looks: the lines of whatever a look may find, and which of two is less, are the document's.
  Conditions: the package-level tables that the row lists (crc.half, audit.wrongs, strconv's and bits' tables) read as the row lays them (tied to the program's text by the card).
-/
import Derived.Test.YtdadfgaomighnaaGreatDoorTextI
import Derived.Test.YtdadfgaomighnaaGreatDoorTextFx
namespace Go.Proofs.YtdadfgaomighnaaGreatDoor
open Go Go.ChangeShapes Go.WideShapes Go.ChangeAt Go.RowKit

set_option maxRecDepth 100000 in
theorem auditTexts_lifted (os : Os) (started : os.Started) (H : Type) (enc : TypeId × Value → H) :
    ReturnsInHanded {} Tryz.checked os 3 .any (fun w args => (Rows.auditTextsSpec.pre enc Tryz.prog Tryz.f3 Rows.auditTextsRow.domain false w args ∧ laidMetH Tryz.prog laid5 w) ∧ sizedMet enc Tryz.prog Tryz.f3 (OpenSpec.ofChange Rows.auditTextsSpec) false w args)
      (Rows.auditTextsSpec.post enc Tryz.prog Tryz.f3 false true false false) := by
  refine returnsInHanded_of_change_and (C := Tryz.checked) (X := fun w _ => laidMetH Tryz.prog laid5 w) (fun _ _ _ hh h => h.of_heap hh) own_knob started (by kernel_rfl) Tryz.func3
    (ChangeSpec.witness_shaped (enc := enc) (C := Tryz.checked) (os := os) (X := fun w _ => laidMetH Tryz.prog laid5 w) false (World.laidAll Tryz.prog os laid5) #[.agg #[.int .i64 0, .int .i64 0, .int .i64 0, .int .i64 0, .int .i64 0, .int .i64 0, .slice none 0 0], .agg #[.int .i64 0, .int .i64 0, .int .i64 0, .int .i64 0, .int .i64 0, .int .i64 0, .slice none 0 0]] 8 (World.laidAll_os _ _ _)
      (World.shaped_of_ZipB (by kernel_rfl) (by kernel_rfl)) (by kernel_rfl) (by kernel_rfl) (by kernel_rfl)
      (by rw [MakeChecks.laidMetH_plain _ _ _ (by kernel_rfl)]; exact laidMet_laidAll _ (by kernel_rfl) (by kernel_rfl))) ?_
  intro W base args ds gs before hval0 hW _ _ hL _
  have hval : ∀ (j : Nat) t v, Tryz.f3.params[j]? = some t → args[j]? = some v → Value.okWide Tryz.prog W .any base t v := hval0
  have hW' := hW
  obtain ⟨p, q, hA0, hV, rfl, _, _⟩ := hW
  have hA : DataW.TrodAll enc Tryz.prog W 0 (fun _ => true) true Tryz.f3.params.toList args.toList ds p := hA0
  rw [Tryz.params3] at hA hval
  obtain ⟨v0, v1, d0, d1, p0, p1, rfl, rfl, rfl, h0, h1⟩ := trodAll_two hA
  obtain ⟨rfl, rfl⟩ := trodVars_none hV
  obtain ⟨a, A, n, c, ns, ha, rfl, hA'⟩ := open_audit (hval 0 24 v0 rfl rfl) h0
  obtain ⟨b, B, m, d, _, _, rfl, _⟩ := open_audit (hval 1 24 v1 rfl rfl) h1
  have hH := half_laid5 hL
  simp only [List.append_nil] at hW'
  refine (auditTexts_walk a b ha A n c B m d ns W hA' hH (pow_laid hL) (pow_size (pow_laid hL)) (wrongs_laid hL)).mono fun e W' ⟨he, hb⟩ => ?_
  exact ⟨_, he, law_post laid_out (by rw [Tryz.params3]; intro t ht; simp at ht; subst ht <;> exact ⟨by kernel_rfl, of_decide_eq_true (by kernel_rfl)⟩) rfl (by simpa using hW') rfl rfl Tryz.underlying4 hb⟩



theorem auditTexts_named : Tryz.prog.funcNamed "troth/trothlaw28.AuditTexts" = some 3 := by kernel_rfl
theorem auditTexts_inst : Tryz.f3.isInstance Tryz.prog Rows.auditTextsRow.origin Rows.auditTextsRow.targs := of_decide_eq_true (by kernel_rfl)
theorem auditTexts_wrap : Tryz.f3.isWrapper Tryz.prog Rows.auditTextsRow.wrapper Rows.auditTextsRow.mainSum := by unfold Func.isWrapper; first | (rw [if_pos (by decide +kernel)]; kernel_rfl) | (rw [if_neg (by decide +kernel)]; exact ⟨rfl, rfl⟩)
theorem auditTexts_holds : Rows.AuditTextsSaid :=
  OpenClaim.holds_of_wide 3 Tryz.f3 rfl rfl rfl rfl rfl rfl rfl ⟨rfl, rfl, rfl, rfl, rfl⟩ rfl rfl rfl rfl rfl auditTexts_named Tryz.func3 auditTexts_facts
    auditTexts_inst auditTexts_wrap
    (fun os started H enc _ => auditTexts_lifted os started H enc)
theorem auditTexts_wf : Rows.auditTextsRow.wfByText (OpenSpec.ofChange Rows.auditTextsSpec) = true := by kernel_rfl
theorem auditTexts_main : Tryz.prog.mainIs = some (true, ("9c9621f84e7dc03f9149b4683218952b635fd0fc73e63802a8445beba7908dce" : String).toList) := by kernel_rfl
theorem auditTexts_looks : (true : Bool) = Tryz.prog.looks [] := by kernel_rfl
theorem auditTexts_stand : ([24, 24].all fun u => !Tryz.prog.wantsStandIn u) = true := by kernel_rfl
theorem auditTexts_goes : false = Rows.auditTextsRow.goesBy Tryz.prog := by kernel_rfl
theorem auditTexts_card : Rows.AuditTextsCardSaid :=
  Claim7.holds_tied_plain_at .later [] [.data, .data, .data, .data, .data] true (true, "9c9621f84e7dc03f9149b4683218952b635fd0fc73e63802a8445beba7908dce") true auditTexts_holds (fun _ h => by cases h) auditTexts_wf (fun _ h => by cases h) auditTexts_row_tie rfl ⟨rfl, rfl⟩ auditTexts_main rfl
    (fun f fn hf hfn => by
      obtain rfl : f = 3 := Option.some.inj (auditTexts_named.symm.trans hf) |>.symm
      obtain rfl : fn = Tryz.f3 := (Option.some.inj (Tryz.func3.symm.trans hfn)).symm
      exact ⟨auditTexts_looks, fun j t ht => by
        rw [Tryz.params3] at ht
        have hm : t ∈ [24, 24] := by simpa using Array.mem_of_getElem? ht
        exact (show Tryz.prog.wantsStandIn t = false by simpa using List.all_eq_true.1 auditTexts_stand t hm)⟩)
    auditTexts_goes
end Go.Proofs.YtdadfgaomighnaaGreatDoor
