/-
  AuditNil is true for every shape: of no disk, of a shape that may not be, of a disk that is too small, or has no log, nothing is told.
  Conditions: the package's table crc.half reads as the row lays it (tied to the program's text by the card).
-/
import Derived.Test.YtekflbnfagldcaaGreatDoorAuNil
import Derived.Test.YtekflbnfagldcaaGreatDoorAuFx
import Derived.Test.YtekflbnfagldcaaGreatDoorLaid
import Derived.Lib.SmallJoins
namespace Go.Proofs.YtekflbnfagldcaaGreatDoor
open Go Go.ChangeShapes Go.WideShapes Go.ChangeAt Go.RowKit

set_option maxRecDepth 100000 in
theorem auditNil_lifted (os : Os) (started : os.Started) (H : Type) (enc : TypeId × Value → H) :
    ReturnsInHanded {} Tryz.checked os 3 .any (fun w args => (Rows.auditNilSpec.pre enc Tryz.prog Tryz.f3 Rows.auditNilRow.domain false w args ∧ laidMetH Tryz.prog laid0 w) ∧ sizedMet enc Tryz.prog Tryz.f3 (OpenSpec.ofChange Rows.auditNilSpec) false w args)
      (Rows.auditNilSpec.post enc Tryz.prog Tryz.f3 false true false false) := by
  refine returnsInHanded_of_change_and (C := Tryz.checked) (X := fun w _ => laidMetH Tryz.prog laid0 w) (fun _ _ _ hh h => h.of_heap hh) own_knob started (by kernel_rfl) Tryz.func3
    (ChangeSpec.witness_shaped (enc := enc) (C := Tryz.checked) (os := os) (X := fun w _ => laidMetH Tryz.prog laid0 w) false (World.laidAll Tryz.prog os laid0) #[.agg #[.int .i64 0, .int .i64 0, .int .i64 0]] 8 (World.laidAll_os _ _ _)
      (World.shaped_of_ZipB (by kernel_rfl) (by kernel_rfl)) (by kernel_rfl) (by kernel_rfl) (by kernel_rfl)
      (by rw [MakeChecks.laidMetH_plain _ _ _ (by kernel_rfl)]; exact laidMet_laidAll _ (by kernel_rfl) (by kernel_rfl))) ?_
  intro W base args ds gs before hval0 hW _ _ hL _
  have hval : ∀ (j : Nat) t v, Tryz.f3.params[j]? = some t → args[j]? = some v → Value.okWide Tryz.prog W .any base t v := hval0
  have hW' := hW
  obtain ⟨p, q, hA0, hV, rfl, _, _⟩ := hW
  have hA : DataW.TrodAll enc Tryz.prog W 0 (fun _ => true) true Tryz.f3.params.toList args.toList ds p := hA0
  rw [Tryz.params3] at hA hval
  obtain ⟨v0, d0, rfl, rfl, h0⟩ := trodAll_one hA
  obtain ⟨rfl, rfl⟩ := trodVars_none hV
  obtain ⟨a0, a1, a2, y0, y1, y2, m, rfl, _, _, g0, g1, g2⟩ := Joins.open_agg3 Tryz.underlying23 (by kernel_rfl) (by kernel_rfl) (hval 0 23 v0 rfl rfl) h0
  obtain ⟨x0, e0, _, _⟩ := DataW.trod_int Tryz.underlying3 g0
  obtain ⟨x1, e1, _, _⟩ := DataW.trod_int Tryz.underlying3 g1
  obtain ⟨x2, e2, _, _⟩ := DataW.trod_int Tryz.underlying3 g2
  simp only [List.cons.injEq, and_true] at e0 e1 e2
  subst e0 e1 e2
  have hH := half_of_laid hL
  simp only [List.append_nil] at hW'
  refine (auditNil_walk x0 x1 x2 W hH).mono fun e W' ⟨he, hb⟩ => ?_
  exact ⟨_, he, law_post laid_out (by rw [Tryz.params3]; intro t ht; simp at ht; subst ht <;> exact ⟨by kernel_rfl, of_decide_eq_true (by kernel_rfl)⟩) rfl (by simpa using hW') rfl rfl Tryz.underlying4 hb⟩



theorem auditNil_named : Tryz.prog.funcNamed "troth/trothlaw28.AuditNil" = some 3 := by kernel_rfl
theorem auditNil_inst : Tryz.f3.isInstance Tryz.prog Rows.auditNilRow.origin Rows.auditNilRow.targs := of_decide_eq_true (by kernel_rfl)
theorem auditNil_wrap : Tryz.f3.isWrapper Tryz.prog Rows.auditNilRow.wrapper Rows.auditNilRow.mainSum := by unfold Func.isWrapper; first | (rw [if_pos (by decide +kernel)]; kernel_rfl) | (rw [if_neg (by decide +kernel)]; exact ⟨rfl, rfl⟩)
theorem auditNil_holds : Rows.AuditNilSaid :=
  OpenClaim.holds_of_wide 3 Tryz.f3 rfl rfl rfl rfl rfl rfl rfl ⟨rfl, rfl, rfl, rfl, rfl⟩ rfl rfl rfl rfl rfl auditNil_named Tryz.func3 auditNil_facts
    auditNil_inst auditNil_wrap
    (fun os started H enc _ => auditNil_lifted os started H enc)
theorem auditNil_wf : Rows.auditNilRow.wfByText (OpenSpec.ofChange Rows.auditNilSpec) = true := by kernel_rfl
theorem auditNil_main : Tryz.prog.mainIs = some (true, ("f8255aaf27866e13f2ac2fbf29695a2bb38e7b68d7d7b815205296dd66687210" : String).toList) := by kernel_rfl
theorem auditNil_looks : (true : Bool) = Tryz.prog.looks [] := by kernel_rfl
theorem auditNil_stand : ([23].all fun u => !Tryz.prog.wantsStandIn u) = true := by kernel_rfl
theorem auditNil_goes : false = Rows.auditNilRow.goesBy Tryz.prog := by kernel_rfl
theorem auditNil_card : Rows.AuditNilCardSaid :=
  Claim7.holds_tied_plain_at .later [] [.data] true (true, "f8255aaf27866e13f2ac2fbf29695a2bb38e7b68d7d7b815205296dd66687210") true auditNil_holds (fun _ h => by cases h) auditNil_wf (fun _ h => by cases h) auditNil_row_tie rfl ⟨rfl, rfl⟩ auditNil_main rfl
    (fun f fn hf hfn => by
      obtain rfl : f = 3 := Option.some.inj (auditNil_named.symm.trans hf) |>.symm
      obtain rfl : fn = Tryz.f3 := (Option.some.inj (Tryz.func3.symm.trans hfn)).symm
      exact ⟨auditNil_looks, fun j t ht => by
        rw [Tryz.params3] at ht
        have hm : t ∈ [23] := by simpa using Array.mem_of_getElem? ht
        exact (show Tryz.prog.wantsStandIn t = false by simpa using List.all_eq_true.1 auditNil_stand t hm)⟩)
    auditNil_goes
end Go.Proofs.YtekflbnfagldcaaGreatDoor
