/-
  Calls on a heap that is kept: one that makes more of it, and one that answers bytes.
-/
import Derived.Test.YtekflbnfagldcaaGreatDoorCore
namespace Go.Proofs.YtekflbnfagldcaaGreatDoor.Ev
open Go

/-- The blocks of a heap that is kept. -/
noncomputable def InCore (base : List (Nat × AObj)) (ρ : Ren) (b : Nat) : Prop := ∃ id l, (∃ o, (id, o) ∈ base) ∧ ρ id = some l ∧ l.blk = b
section
variable {P : Program} {T : TT TypeInfo} {env env' : Nat → Value} {G : Nat} {ρ ρ' : Ren} {w w' : World} {n n' ns : Nat}
theorem CoreAt.match_ {base : List (Nat × AObj)} {fl : List (Nat × Value × Value × Value)} (hw : CoreAt T env G base n ρ w) (hlow : lowB n ns base = true) (hself : baseOk (coreH base n []) base = true) (hn : 3 < n) (hG : 3 < G) (henv : ∀ i, i < ns → env' i = env i) (hfl : FactOK env' fl) : Match T env' ρ (coreH base n fl) w := by
  have hcut : cutR n ρ = ρ := by
    funext id
    unfold cutR
    split
    · rfl
    · rename_i h; exact (hw.fresh id (by omega)).symm
  obtain ⟨l3, h3⟩ := hw.fx 3 hG
  have := hw.ok.core (env' := env') (fl := fl) hself hlow henv hfl ⟨_, h3⟩ hn
  rw [hcut] at this
  exact this
theorem live_core {base : List (Nat × AObj)} {fl : List (Nat × Value × Value × Value)} {k : Nat} (h : Live ρ (coreH base n fl) k) : InCore base ρ k := by
  obtain ⟨id, o, lc, h1, h2, h4, h5⟩ := h
  rcases baseH_find ((3, AObj.facts fl) :: base) .leaf id o h1 with h | h
  · rcases List.mem_cons.1 h with h | h
    · simp only [Prod.mk.injEq] at h
      rw [h.2] at h2
      cases h2
    · exact ⟨id, lc, ⟨o, h⟩, h4, h5⟩
  · rw [leaf_find] at h; cases h
/-- What is behind a call, if what is kept of the heap is there. -/
theorem core_back {base base' : List (Nat × AObj)} {fl : List (Nat × Value × Value × Value)} {H' : HS} (hw : CoreAt T env G base n ρ w) (hP : Post T env' ρ (coreH base n fl) w ρ' H' w') (hb : baseOk H' base' = true) (hlow : lowB n' ns base' = true) (henv : ∀ i, i < ns → env' i = env i) (hn : 3 < n) (hG : 3 < G) (hnn : n ≤ n') :
    Ren.le ρ (cutR n' ρ') ∧ CoreAt T env G base' n' (cutR n' ρ') w' ∧ Upd (InCore base ρ) w w' := by
  have hle : Ren.le ρ (cutR n' ρ') := fun id l h => by
    have hid : id < n := by
      rcases Nat.lt_or_ge id n with h1 | h1
      · exact h1
      · rw [hw.fresh id h1] at h; cases h
    rw [cutR_lt (by omega)]
    exact hP.le id l h
  obtain ⟨l3, h3⟩ := hw.fx 3 hG
  refine ⟨hle, ⟨hP.ok.core (env' := env) (n := n') (fl := []) hb hlow (fun i hi => (henv i hi).symm) (fun _ _ _ _ h => by cases h) ⟨_, hP.le 3 _ h3⟩ (by omega), fun g hg => ?_, fun id h => if_neg (by omega)⟩, hP.upd.mono fun k _ hL => live_core hL⟩
  obtain ⟨a, ha⟩ := hw.fx g hg
  exact ⟨a, hle _ _ ha⟩
theorem live_of {base : List (Nat × AObj)} {H : HS} {b : Nat} (hb : baseOk H base = true) (hlow : lowB n ns base = true) (h : InCore base (cutR n ρ) b) : Live ρ H b := by
  obtain ⟨id, l, ⟨o, hm⟩, e, rfl⟩ := h
  have h1 := low_mem hlow hm
  rw [cutR_lt h1.1] at e
  refine ⟨id, o, l, baseOk_mem hb id o hm, ?_, e, rfl⟩
  cases o <;> first | rfl | (have := h1.2.2; simp [lowO] at this)
/-- A kept heap's blocks are the world's. -/
theorem CoreAt.lt {base : List (Nat × AObj)} (hw : CoreAt T env G base n ρ w) (hself : baseOk (coreH base n []) base = true) (hlow : lowB n ns base = true) {b : Nat} (h : InCore base ρ b) : b < w.heap.size := by
  have hcut : cutR n ρ = ρ := by
    funext id
    unfold cutR
    split
    · rfl
    · rename_i h; exact (hw.fresh id (by omega)).symm
  refine hw.ok.live_lt (live_of (n := n) (ns := ns) hself hlow ?_)
  rw [hcut]
  exact h
/-- A call that makes more of the heap. -/
theorem core_step {base base' : List (Nat × AObj)} {fl : List (Nat × Value × Value × Value)} {f fuel k : Nat} {fn : Func} {c : Code} {args args' : List Value} {v : Value} {fns : TT Func} {X : List (Nat × XK)}
    (hmix : P.follows .mixedOrders = true) (hC : Cx P T env' G) (hF : Fns P G fns) (hX : ExtOK P T env' G X) (hf : fns.find f = some fn) (hb : fn.body = some c)
    (hrun : coreRun base' v (evCall T G fns X fuel k (.fn f args) (coreH base n fl)) = true) (hlow : lowB n ns base = true) (hlow' : lowB n' ns base' = true) (hself : baseOk (coreH base n []) base = true) (hn : 3 < n) (hG : 3 < G) (hnn : n ≤ n') (hv : lowV n' ns 4 v = true)
    (henv : ∀ i, i < ns → env' i = env i) (hfl : FactOK env' fl) (hw : CoreAt T env G base n ρ w) (hargs : VRs ρ env' args args') :
    Calls P f ⟨args'⟩ w fun e w' => ∃ ρ' v', e = .returned v' ∧ VR ρ' env v v' ∧ Ren.le ρ ρ' ∧ CoreAt T env G base' n' ρ' w' ∧ Upd (InCore base ρ) w w' ∧ ∀ b, InCore base' ρ' b → InCore base ρ b ∨ w.heap.size ≤ b := by
  have hM := hw.match_ hlow hself hn hG henv hfl
  unfold coreRun at hrun
  split at hrun
  rotate_left
  · cases hrun
  rename_i l hl
  refine Calls.mono (ev_calls hmix hC hF hX hf hb hl hM hw.fx hw.fresh hargs) ?_
  rintro e w' ⟨v1, rfl, p, hp, ρ', hv1, hP⟩
  have hpp := List.all_eq_true.1 hrun p hp
  simp only [Bool.and_eq_true] at hpp
  obtain ⟨hpv, hpb⟩ := hpp
  have e1 := veq_eq _ _ _ hpv
  rw [e1] at hv1
  obtain ⟨h1, h2, h3⟩ := core_back hw hP hpb hlow' henv hn hG hnn
  exact ⟨cutR n' ρ', v1, rfl, low_vr (fun i hi => (henv i hi).symm) hv hv1, h1, h2, h3, fun b hb => (hP.fp b (live_of hpb hlow' hb)).imp live_core id⟩
/-- A call that leaves the heap as it is, and gives a value that speaks of it. -/
theorem core_sym {base : List (Nat × AObj)} {fl : List (Nat × Value × Value × Value)} {f fuel k : Nat} {fn : Func} {c : Code} {args args' : List Value} {v : Value} {fns : TT Func} {X : List (Nat × XK)}
    (hmix : P.follows .mixedOrders = true) (hC : Cx P T env' G) (hF : Fns P G fns) (hX : ExtOK P T env' G X) (hf : fns.find f = some fn) (hb : fn.body = some c)
    (hrun : coreRun base v (evCall T G fns X fuel k (.fn f args) (coreH base n fl)) = true) (hlow : lowB n ns base = true) (hself : baseOk (coreH base n []) base = true) (hn : 3 < n) (hG : 3 < G) (hv : lowV n ns 4 v = true)
    (henv : ∀ i, i < ns → env' i = env i) (hfl : FactOK env' fl) (hw : CoreAt T env G base n ρ w) (hargs : VRs ρ env' args args') :
    Calls P f ⟨args'⟩ w fun e w' => ∃ v', e = .returned v' ∧ VR ρ env v v' ∧ CoreAt T env G base n ρ w' ∧ Upd (InCore base ρ) w w' := by
  have hM := hw.match_ hlow hself hn hG henv hfl
  unfold coreRun at hrun
  split at hrun
  rotate_left
  · cases hrun
  rename_i l hl
  refine Calls.mono (ev_calls hmix hC hF hX hf hb hl hM hw.fx hw.fresh hargs) ?_
  rintro e w' ⟨v1, rfl, p, hp, ρ', hv1, hP⟩
  have hpp := List.all_eq_true.1 hrun p hp
  simp only [Bool.and_eq_true] at hpp
  obtain ⟨hpv, hpb⟩ := hpp
  have e1 := veq_eq _ _ _ hpv
  rw [e1] at hv1
  obtain ⟨h1, h2, h3⟩ := core_back (n' := n) hw hP hpb hlow henv hn hG (Nat.le_refl _)
  have hb' : cutR n ρ' = ρ := cutR_back (H := coreH base n fl) hP hw.fresh
  have hv2 : VR (cutR n ρ') env v v1 := low_vr (fun i hi => (henv i hi).symm) hv hv1
  rw [hb'] at h2 hv2
  exact ⟨v1, rfl, hv2, h2, h3⟩
/-- Does a call give new bytes, and leave the heap as it is? -/
noncomputable def bytesRun (base : List (Nat × AObj)) (id : Nat) (cs : List Value) (r : List Value) : Option (List (Value × HS)) → Bool
  | some l => l.all fun p => veq vDepth p.1 (.tuple ⟨.slice (some ⟨id, 0, none⟩) cs.length (OPEN + cs.length) :: r⟩) && (baseOk p.2 base && match p.2.h.find id with
    | some (.cells cs' _ _) => allH (veq vDepth) cs' cs
    | _ => false)
  | none => false
/-- A call that gives new bytes. -/
theorem core_bytes {base : List (Nat × AObj)} {fl : List (Nat × Value × Value × Value)} {f fuel k id : Nat} {fn : Func} {c : Code} {args args' : List Value} {cs r : List Value} {fns : TT Func} {X : List (Nat × XK)}
    (hmix : P.follows .mixedOrders = true) (hC : Cx P T env' G) (hF : Fns P G fns) (hX : ExtOK P T env' G X) (hf : fns.find f = some fn) (hb : fn.body = some c)
    (hrun : bytesRun base id cs r (evCall T G fns X fuel k (.fn f args) (coreH base n fl)) = true) (hlow : lowB n ns base = true) (hself : baseOk (coreH base n []) base = true) (hn : 3 < n) (hG : 3 < G) (hcs : cs.all (closedB 3) = true) (hr : r.all (closedB 3) = true)
    (henv : ∀ i, i < ns → env' i = env i) (hfl : FactOK env' fl) (hw : CoreAt T env G base n ρ w) (hargs : VRs ρ env' args args') :
    Calls P f ⟨args'⟩ w fun e w' => ∃ b o c', e = .returned (.tuple ⟨.slice (some ⟨b, o, none⟩) cs.length c' :: r⟩) ∧ cs.length ≤ c' ∧ (∀ j u, cs[j]? = some u → w'.cell? ⟨b, o + j, none⟩ = some u) ∧ CoreAt T env G base n ρ w' ∧ Upd (InCore base ρ) w w' := by
  have hM := hw.match_ hlow hself hn hG henv hfl
  unfold bytesRun at hrun
  split at hrun
  rotate_left
  · cases hrun
  rename_i l hl
  refine Calls.mono (ev_calls hmix hC hF hX hf hb hl hM hw.fx hw.fresh hargs) ?_
  rintro e w' ⟨v1, rfl, p, hp, ρ', hv1, hP⟩
  have hpp := List.all_eq_true.1 hrun p hp
  simp only [Bool.and_eq_true] at hpp
  obtain ⟨hpv, hpb, hpc⟩ := hpp
  have e1 := veq_eq _ _ _ hpv
  rw [e1] at hv1
  obtain ⟨h1, h2, h3⟩ := core_back (n' := n) hw hP hpb hlow henv hn hG (Nat.le_refl _)
  have hb' : cutR n ρ' = ρ := cutR_back (H := coreH base n fl) hP hw.fresh
  rw [hb'] at h2
  split at hpc
  rotate_left
  · cases hpc
  rename_i cs' ty opn hfind
  have ecs := allH_eq (fun a b h => veq_eq _ a b h) hpc
  subst ecs
  obtain ⟨lc, hlc, pre, cs2, sp, fz, g1, g2, g3, _, _⟩ := hP.ok.obj id _ hfind
  have g4 := closeds_eq hcs g3
  subst g4
  cases hv1 with
  | tuple hl2 =>
    cases hl2 with
    | cons hx hr2 =>
      have g5 := closeds_eq hr hr2
      subst g5
      have key : ∀ j u, cs2[j]? = some u → w'.cell? ⟨lc.blk, lc.base + 0 + j, none⟩ = some u := fun j u hj => by
        simp only [World.cell?, g1]
        have hlt := (List.getElem?_eq_some_iff.1 hj).1
        simp [← g2, List.getElem?_append_left (show j < cs2.length from hlt), List.append_assoc, List.getElem?_append_right, hj]
      cases hx with
      | sl k e h =>
        rename_i l1
        rw [hlc] at e
        obtain rfl : lc = l1 := by simpa using e
        exact absurd h (by omega)
      | slo k e h =>
        rename_i l1 c1
        rw [hlc] at e
        obtain rfl : lc = l1 := by simpa using e
        exact ⟨lc.blk, lc.base + 0, _, rfl, by omega, key, h2, h3⟩
end
end Go.Proofs.YtekflbnfagldcaaGreatDoor.Ev
