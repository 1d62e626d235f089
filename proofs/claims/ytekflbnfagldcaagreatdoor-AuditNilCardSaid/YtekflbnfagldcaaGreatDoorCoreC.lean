/-
  A heap that is kept, in a world that went on beside it.
-/
import Derived.Test.YtekflbnfagldcaaGreatDoorCoreB
namespace Go.Proofs.YtekflbnfagldcaaGreatDoor.Ev
open Go

section
variable {T : TT TypeInfo} {env : Nat → Value} {G : Nat} {ρ : Ren} {w w' : World} {n ns : Nat} {F : Nat → Prop}
theorem core_find {base : List (Nat × AObj)} {fl : List (Nat × Value × Value × Value)} {id : Nat} {o : AObj} (h : (coreH base n fl).h.find id = some o) : (id = 3 ∧ o = .facts fl) ∨ (id, o) ∈ base := by
  rcases baseH_find ((3, AObj.facts fl) :: base) .leaf id o h with h | h
  · rcases List.mem_cons.1 h with h | h
    · simp only [Prod.mk.injEq] at h; exact .inl h
    · exact .inr h
  · rw [leaf_find] at h; cases h
/-- Beside a heap that is kept a world may change. -/
theorem CoreAt.upd {base : List (Nat × AObj)} (hw : CoreAt T env G base n ρ w) (hlow : lowB n ns base = true) (hu : Upd F w w') (hF : ∀ b, b < w.heap.size → InCore base ρ b → ¬ F b) : CoreAt T env G base n ρ w' := by
  refine ⟨⟨fun id o h => ?_, hw.ok.inj, hw.ok.its, hw.ok.small⟩, hw.fx, hw.fresh⟩
  obtain ⟨l, e, hO⟩ := hw.ok.obj id o h
  refine ⟨l, e, ?_⟩
  rcases core_find h with ⟨rfl, rfl⟩ | hm
  · exact hO.frame (fun h => by cases h) (fun m lm h => by cases h)
  · refine hO.frame (fun ho => hu.block _ (hO.lt ho) (hF _ (hO.lt ho) ⟨id, l, ⟨o, hm⟩, e, rfl⟩)) (fun m lm h => ?_)
    rw [low_dep (low_mem hlow hm).2.2] at h
    cases h
theorem CoreAt.alloc {base : List (Nat × AObj)} (hw : CoreAt T env G base n ρ w) (hlow : lowB n ns base = true) (o : Obj) : CoreAt T env G base n ρ (w.alloc o) :=
  hw.upd hlow ((Upd.refl Nowhere w).alloc o) fun _ _ _ h => h
end
section
variable {P : Program} {T : TT TypeInfo} {env env' : Nat → Value} {G : Nat} {ρ ρ' : Ren} {w w' : World} {n n' ns : Nat}
theorem cutR_cut (h : n ≤ n') : cutR n (cutR n' ρ) = cutR n ρ := by
  funext id
  unfold cutR
  split
  · rw [if_pos (by omega)]
  · rfl
theorem cutR_le (h : cutR n ρ' = ρ) : Ren.le ρ ρ' := fun id l e => by
  rw [← h] at e
  unfold cutR at e
  split at e
  · exact e
  · cases e
/-- A call that makes more of the heap. -/
theorem core_step' {base base' : List (Nat × AObj)} {fl : List (Nat × Value × Value × Value)} {f fuel k : Nat} {fn : Func} {c : Code} {args args' : List Value} {v : Value} {fns : TT Func} {X : List (Nat × XK)}
    (hmix : P.follows .mixedOrders = true) (hC : Cx P T env' G) (hF : Fns P G fns) (hX : ExtOK P T env' G X) (hf : fns.find f = some fn) (hb : fn.body = some c)
    (hrun : coreRun base' v (evCall T G fns X fuel k (.fn f args) (coreH base n fl)) = true) (hlow : lowB n ns base = true) (hlow' : lowB n' ns base' = true) (hself : baseOk (coreH base n []) base = true) (hn : 3 < n) (hG : 3 < G) (hnn : n ≤ n') (hv : lowV n' ns 4 v = true)
    (henv : ∀ i, i < ns → env' i = env i) (hfl : FactOK env' fl) (hw : CoreAt T env G base n ρ w) (hargs : VRs ρ env' args args') :
    Calls P f ⟨args'⟩ w fun e w' => ∃ ρ' v', e = .returned v' ∧ VR ρ' env v v' ∧ cutR n ρ' = ρ ∧ CoreAt T env G base' n' ρ' w' ∧ Upd (InCore base ρ) w w' ∧ ∀ b, InCore base' ρ' b → InCore base ρ b ∨ w.heap.size ≤ b := by
  have hM := hw.match_ hlow hself hn hG henv hfl
  unfold coreRun at hrun
  split at hrun
  rotate_left
  · cases hrun
  rename_i l hl
  refine Calls.mono (ev_calls hmix hC hF hX hf hb hl hM hw.fx hw.fresh hargs) ?_
  rintro e w' ⟨v1, rfl, p, hp, ρ', hv1, hP⟩
  have hpp := List.all_eq_true.1 hrun p hp
  simp only [Bool.and_eq_true] at hpp
  obtain ⟨hpv, hpb⟩ := hpp
  have e1 := veq_eq _ _ _ hpv
  rw [e1] at hv1
  obtain ⟨_, h2, h3⟩ := core_back hw hP hpb hlow' henv hn hG hnn
  exact ⟨cutR n' ρ', v1, rfl, low_vr (fun i hi => (henv i hi).symm) hv hv1, (cutR_cut hnn).trans (cutR_back (H := coreH base n fl) hP hw.fresh), h2, h3, fun b hb => (hP.fp b (live_of hpb hlow' hb)).imp live_core id⟩
/-- A part of a heap that is kept, in its first names. -/
theorem CoreAt.back {base base' : List (Nat × AObj)} (hw : CoreAt T env G base' n' ρ' w') (hcut : cutR n ρ' = ρ) (hself : baseOk (coreH base' n' []) base = true) (hlow : lowB n ns base = true) (hfx : Fixed ρ G) (hfr : Fresh ρ n) (hn : 3 < n) (hG : 3 < G) : CoreAt T env G base n ρ w' := by
  obtain ⟨l3, h3⟩ := hw.fx 3 hG
  have := hw.ok.core (env' := env) (n := n) (fl := []) hself hlow (fun _ _ => rfl) (fun _ _ _ _ h => by cases h) ⟨_, h3⟩ hn
  rw [hcut] at this
  exact ⟨this, hfx, hfr⟩
end
end Go.Proofs.YtekflbnfagldcaaGreatDoor.Ev
