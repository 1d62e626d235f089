/-
  PoolDown is true for every key, value and fuse: a pool whose disk is down writes nothing back.
  Conditions: the package's table crc.half reads as the row lays it (tied to the program's text by the card).
-/
import Derived.Test.YtdfccegeihfdpaaGreatDoorPdC
import Derived.Test.YtdfccegeihfdpaaGreatDoorPoolDownFx
import Derived.Test.YtdfccegeihfdpaaGreatDoorOpen
import Derived.Test.YtdfccegeihfdpaaGreatDoorLaidW
namespace Go.Proofs.YtdfccegeihfdpaaGreatDoor
open Go Go.ChangeShapes Go.WideShapes Go.ChangeAt Go.RowKit

set_option maxRecDepth 100000 in
theorem poolDown_lifted (os : Os) (started : os.Started) (H : Type) (enc : TypeId × Value → H) :
    ReturnsInHanded {} Tryz.checked os 8 .any (fun w args => (Rows.poolDownSpec.pre enc Tryz.prog Tryz.f8 Rows.poolDownRow.domain false w args ∧ laidMetH Tryz.prog laid0 w) ∧ sizedMet enc Tryz.prog Tryz.f8 (OpenSpec.ofChange Rows.poolDownSpec) false w args)
      (Rows.poolDownSpec.post enc Tryz.prog Tryz.f8 false true false false) := by
  refine returnsInHanded_of_change_and (C := Tryz.checked) (X := fun w _ => laidMetH Tryz.prog laid0 w) (fun _ _ _ hh h => h.of_heap hh) own_knob started (by kernel_rfl) Tryz.func8
    (ChangeSpec.witness_shaped (enc := enc) (C := Tryz.checked) (os := os) (X := fun w _ => laidMetH Tryz.prog laid0 w) false (World.laidAll Tryz.prog os laid0) #[.string ⟨#[]⟩, .agg #[.bool false, .string ⟨#[]⟩], .int .i64 0] 8 (World.laidAll_os _ _ _)
      (World.shaped_of_ZipB (by kernel_rfl) (by kernel_rfl)) (by kernel_rfl) (by kernel_rfl) (by kernel_rfl)
      (by rw [MakeChecks.laidMetH_plain _ _ _ (by kernel_rfl)]; exact laidMet_laidAll _ (by kernel_rfl) (by kernel_rfl))) ?_
  intro W base args ds gs before hval0 hW _ _ hL _
  have hval : ∀ (j : Nat) t v, Tryz.f8.params[j]? = some t → args[j]? = some v → Value.okWide Tryz.prog W .any base t v := hval0
  have hW' := hW
  obtain ⟨p, q, hA0, hV, rfl, _, _⟩ := hW
  have hA : DataW.TrodAll enc Tryz.prog W 0 (fun _ => true) true Tryz.f8.params.toList args.toList ds p := hA0
  rw [Tryz.params8] at hA hval
  obtain ⟨v0, v1, v2, d0, d1, d2, p0, p1, p2, rfl, rfl, rfl, h0, h1, h2⟩ := trodAll_three hA
  obtain ⟨rfl, rfl⟩ := trodVars_none hV
  obtain ⟨s0, rfl, _, _, _⟩ := Go.ChangeMaps.open_string Tryz.underlying9 (hval 0 9 v0 rfl rfl) h0
  obtain ⟨a0, a1, y0, y1, m, rfl, _, _, g0, g1⟩ := Joins.open_agg2 Tryz.underlying32 (by kernel_rfl) (by kernel_rfl) (hval 1 32 v1 rfl rfl) h1
  obtain ⟨hs, e0, _⟩ := DataW.trod_bool Tryz.underlying4 g0
  obtain ⟨dt, e1, _, _⟩ := DataW.trod_string Tryz.underlying9 g1
  simp only [List.cons.injEq, and_true] at e0 e1
  subst e0 e1
  obtain ⟨i2, rfl, _, _, _⟩ := open_int Tryz.underlying3 (hval 2 3 v2 rfl rfl) h2
  obtain ⟨l0, el0⟩ := bytes_list s0
  obtain ⟨l1, el1⟩ := bytes_list dt
  subst el0 el1
  have hH := half_of_laid hL
  simp only [List.append_nil] at hW'
  refine ((poolDown_in l0 hs l1 i2 hH hH.lt).mono fun e W9 h => And.intro h.1 (h.2.toBelow fun k hk => Nat.not_le.2 hk)).mono fun e W' ⟨he, hb⟩ => ?_
  exact ⟨_, he, law_post laid_out (by rw [Tryz.params8]; intro t ht; simp at ht; rcases ht with rfl | rfl | rfl <;> exact ⟨by kernel_rfl, of_decide_eq_true (by kernel_rfl)⟩) rfl (by simpa using hW') rfl rfl Tryz.underlying4 hb⟩



theorem poolDown_named : Tryz.prog.funcNamed "troth/trothlaw12.PoolDown" = some 8 := by kernel_rfl
theorem poolDown_inst : Tryz.f8.isInstance Tryz.prog Rows.poolDownRow.origin Rows.poolDownRow.targs := of_decide_eq_true (by kernel_rfl)
theorem poolDown_wrap : Tryz.f8.isWrapper Tryz.prog Rows.poolDownRow.wrapper Rows.poolDownRow.mainSum := by unfold Func.isWrapper; first | (rw [if_pos (by decide +kernel)]; kernel_rfl) | (rw [if_neg (by decide +kernel)]; exact ⟨rfl, rfl⟩)
theorem poolDown_holds : Rows.PoolDownSaid :=
  OpenClaim.holds_of_wide 8 Tryz.f8 rfl rfl rfl rfl rfl rfl rfl ⟨rfl, rfl, rfl, rfl, rfl⟩ rfl rfl rfl rfl rfl poolDown_named Tryz.func8 poolDown_facts
    poolDown_inst poolDown_wrap
    (fun os started H enc _ => poolDown_lifted os started H enc)
theorem poolDown_wf : Rows.poolDownRow.wfByText (OpenSpec.ofChange Rows.poolDownSpec) = true := by kernel_rfl
theorem poolDown_main : Tryz.prog.mainIs = some (true, ("2488b91465a5dcd83e2b1a07aeec636176e80929914c95b785f3899025dc3ea6" : String).toList) := by kernel_rfl
theorem poolDown_looks : (true : Bool) = Tryz.prog.looks [] := by kernel_rfl
theorem poolDown_stand : ([9, 32, 3].all fun u => !Tryz.prog.wantsStandIn u) = true := by kernel_rfl
theorem poolDown_goes : false = Rows.poolDownRow.goesBy Tryz.prog := by kernel_rfl
theorem poolDown_card : Rows.PoolDownCardSaid :=
  Claim7.holds_tied_plain_at .later [] [.data] true (true, "2488b91465a5dcd83e2b1a07aeec636176e80929914c95b785f3899025dc3ea6") true poolDown_holds (fun _ h => by cases h) poolDown_wf (fun _ h => by cases h) poolDown_row_tie rfl ⟨rfl, rfl⟩ poolDown_main rfl
    (fun f fn hf hfn => by
      obtain rfl : f = 8 := Option.some.inj (poolDown_named.symm.trans hf) |>.symm
      obtain rfl : fn = Tryz.f8 := (Option.some.inj (Tryz.func8.symm.trans hfn)).symm
      exact ⟨poolDown_looks, fun j t ht => by
        rw [Tryz.params8] at ht
        have hm : t ∈ [9, 32, 3] := by simpa using Array.mem_of_getElem? ht
        exact (show Tryz.prog.wantsStandIn t = false by simpa using List.all_eq_true.1 poolDown_stand t hm)⟩)
    poolDown_goes
end Go.Proofs.YtdfccegeihfdpaaGreatDoor
