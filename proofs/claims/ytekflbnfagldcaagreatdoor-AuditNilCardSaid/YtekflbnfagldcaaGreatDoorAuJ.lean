/-
  AuditNil: the last look, as a call that the evaluator knows.
-/
import Derived.Test.YtekflbnfagldcaaGreatDoorAuI
namespace Go.Proofs.YtekflbnfagldcaaGreatDoor.Ev
open Go

section
variable {P : Program} {T : TT TypeInfo} {env : Nat → Value} {G ns : Nat} {ρ : Ren} {w w' : World} {H : HS}
theorem low_owns {n : Nat} {o : AObj} (h : lowO n ns o = true) : o.owns = true := by
  cases o <;> first | rfl | simp [lowO] at h
/-- What a walk tells of a heap's part, as a call's outcome. -/
theorem core_post {base out : List (Nat × AObj)} (hM : Match T env ρ H w) (hout : baseOk H out = true) (hbase : baseOk H base = true) (hdep : (out.all fun p => p.2.dep.isNone) = true) (hself : baseOk (coreH base H.n []) base = true) (hlow : lowB H.n ns base = true)
    (hc : CoreAt T env G base H.n ρ w') (hu : Upd (InCore base ρ) w w') : Post T env ρ H w ρ ⟨baseH out .leaf, H.n, []⟩ w' := by
  have hin : ∀ id o, (baseH out .leaf).find id = some o → H.h.find id = some o ∧ o.dep = none := fun id o h => by
    rcases baseH_find out .leaf id o h with h | h
    · exact ⟨baseOk_mem hout id o h, by have := List.all_eq_true.1 hdep _ h; simpa using this⟩
    · rw [leaf_find] at h; cases h
  refine ⟨fun _ _ => rfl, Ren.le.refl ρ, Nat.le_refl _, ⟨fun id o h => ?_, fun id id' o o' l l' h h' => hM.inj id id' o o' l l' (hin id o h).1 (hin id' o' h').1, fun z o m h hd => ?_, fun id o h => hM.small id o (hin id o h).1⟩, hu.mono fun k _ hk => ?_, fun k hk => .inl ?_⟩
  · obtain ⟨hf, hd⟩ := hin id o h
    by_cases hb : ∃ o', (id, o') ∈ base
    · obtain ⟨o', hm⟩ := hb
      have := baseOk_mem hbase id o' hm
      rw [hf] at this
      cases this
      exact hc.ok.obj id o (baseOk_mem hself id o hm)
    · obtain ⟨l, e, hO⟩ := hM.obj id o hf
      refine ⟨l, e, hO.frame (fun ho => hu.block _ (hO.lt ho) ?_) (fun m lm h => by rw [hd] at h; cases h)⟩
      rintro ⟨id2, l2, ⟨o2, hm2⟩, e2, hb2⟩
      have := hM.inj id2 id o2 o l2 l (baseOk_mem hbase id2 o2 hm2) hf (low_owns (low_mem hlow hm2).2.2) ho e2 e hb2
      subst this
      exact hb ⟨o2, hm2⟩
  · rw [(hin z o h).2] at hd; cases hd
  · obtain ⟨id, l, ⟨o, hm⟩, e, hb⟩ := hk
    exact ⟨id, o, l, baseOk_mem hbase id o hm, low_owns (low_mem hlow hm).2.2, e, hb⟩
  · obtain ⟨id, o, l, h, r⟩ := hk
    exact ⟨id, o, l, (hin id o h).1, r⟩
/-- One call that is known, beside those that are. -/
theorem ext_one {X : List (Nat × XK)} (hX : ExtOK P T env G X) {f : Nat} {s : Snap}
    (h : ∀ {args args' : List Value} {H : HS} {ρ : Ren} {w : World}, snapFit s args H = true → Match T env ρ H w → Fixed ρ G → Fresh ρ H.n → VRs ρ env args args' → Ran P f ⟨args'⟩ w (Outs T env ρ H w [(s.v, ⟨baseH s.out .leaf, s.n1, []⟩)])) : ExtOK P T env G ((f, .snap [s]) :: X) := by
  intro g k hk args H l' hE ρ w args' hM hfx hfr hargs
  simp only [look2, cond_eq] at hk
  split at hk
  rotate_left
  · exact hX g k hk args H l' hE ρ w args' hM hfx hfr hargs
  rename_i hg
  obtain rfl := Nat.eq_of_beq_eq_true hg
  simp only [Option.some.injEq] at hk
  subst hk
  have hE' : snapsV args H [s] = some l' := by
    unfold evX at hE
    exact hE
  simp only [snapsV, cond_eq] at hE'
  split at hE'
  · rename_i hfit
    simp only [Option.some.injEq] at hE'
    subst hE'
    exact h hfit hM hfx hfr hargs
  · cases hE'
end
end Go.Proofs.YtekflbnfagldcaaGreatDoor.Ev
namespace Go.Proofs.YtekflbnfagldcaaGreatDoor
open Go Ev

/-- What is known where the first tests are not met, and the next one is; below: a number's least, above: its most. -/
noncomputable def shapeFacts : Nat → List (Nat × Nat × Nat × Int) → List (Nat × Value × Value × Value) → List (Nat × Value × Value × Value)
  | _, [], r => r
  | 0, (c, d, i, n) :: _, _ => [(c, sy i, nu n, .bool true), (d, sy i, nu n, .bool false)]
  | k + 1, (c, d, i, n) :: l, r => (c, sy i, nu n, .bool false) :: (d, sy i, nu n, .bool true) :: shapeFacts k l r
def shapeTests : List (Nat × Nat × Nat × Int) := [(1, 4, 0, 64), (3, 2, 0, 1024), (1, 4, 1, 1), (3, 2, 1, 64), (1, 4, 2, 1), (3, 2, 2, 64)]
/-- Of a right shape: its sums (3: 2 + Log, 4: 2 * Pages, 5: all, 6: one less), and how they stand. -/
noncomputable def sumFacts : List (Nat × Value × Value × Value) :=
  [(7, nu 2, sy 0, sy 3), (9, nu 2, sy 1, sy 4), (7, sy 3, sy 4, sy 5), (8, sy 5, nu 1, sy 6),
   (1, sy 6, nu 1, .bool false), (3, sy 6, nu 4096, .bool false), (1, sy 5, nu 1, .bool false), (3, sy 5, nu 4096, .bool false),
   (1, sy 6, sy 5, .bool true), (1, sy 5, sy 5, .bool false), (1, sy 0, nu 8, .bool false), (1, sy 5, sy 3, .bool false),
   (4, nu 0, sy 5, .bool false), (4, nu 1, sy 5, .bool false),
   (1, nu 0, sy 0, .bool true), (10, nu 0, sy 0, nu 0), (3, sy 0, nu 1024, .bool false), (1, sy 0, nu 64, .bool false), (7, nu 2, sy 0, sy 3), (4, nu 2, sy 5, .bool false)]
noncomputable def auFacts (k : Nat) : List (Nat × Value × Value × Value) := shapeFacts k shapeTests sumFacts
noncomputable def auOut : List (Nat × AObj) := base0 ++ auB0
noncomputable def snLook : Snap := ⟨[.pointer (some ⟨19, 0, none⟩), .agg ⟨[sy 0, sy 1, sy 2]⟩], auOut, 100, .tuple ⟨[.agg ⟨[nu 0, nu 1, nu 0, nu 0, nu 0, nu 0, .slice none 0 0]⟩, nu 0]⟩, auOut, 100⟩
theorem baseOk_app {H : HS} {a b : List (Nat × AObj)} (h : baseOk H (a ++ b) = true) : baseOk H a = true ∧ baseOk H b = true := by
  induction a with
  | nil => exact ⟨rfl, h⟩
  | cons p l ih =>
    obtain ⟨id, o⟩ := p
    rw [List.cons_append] at h
    simp only [baseOk, Bool.and_eq_true] at h ⊢
    exact ⟨⟨h.1, (ih h.2).1⟩, (ih h.2).2⟩
theorem look_args {env : Nat → Value} {ρ : Ren} {b : Nat} {args' : List Value} {x y z : Int} (h0 : env 0 = .int .i64 x) (h1 : env 1 = .int .i64 y) (h2 : env 2 = .int .i64 z) (h : VRs ρ env [.pointer (some ⟨b, 0, none⟩), .agg ⟨[sy 0, sy 1, sy 2]⟩] args') :
    ∃ b0 o0, args' = [.pointer (some ⟨b0, o0, none⟩), .agg #[.int .i64 x, .int .i64 y, .int .i64 z]] ∧ VR ρ env (.pointer (some ⟨b, 0, none⟩)) (.pointer (some ⟨b0, o0, none⟩)) := by
  cases h with
  | cons hp hr =>
    cases hr with
    | cons ha hn =>
      cases hn
      cases ha with
      | agg hs =>
        cases hs with
        | cons s0 hs =>
          cases hs with
          | cons s1 hs =>
            cases hs with
            | cons s2 hs =>
              cases hs
              cases s0; cases s1; cases s2
              rw [h0, h1, h2]
              cases hp with
              | ptr e => exact ⟨_, _, rfl, .ptr e⟩
theorem auOut_dep : (auOut.all fun p => p.2.dep.isNone) = true := by kernel_rfl
section
variable {g p f : Int} (hg0 : 64 ≤ g) (hg1 : g ≤ 1024) (hp0 : 1 ≤ p) (hp1 : p ≤ 64) (hf0 : 1 ≤ f) (hf1 : f ≤ 64)
include hg0 hg1 hp0 hp1 hf0 hf1
theorem look_known {X : List (Nat × XK)} (hX : ExtOK Tryz.prog T0 (envOf (auSyms g p f [])) 4 X) : ExtOK Tryz.prog T0 (envOf (auSyms g p f [])) 4 ((4, .snap [snLook]) :: X) := by
  refine ext_one hX ?_
  intro args args' H ρ w hfit hM hfx hfr hargs
  simp only [snapFit, Bool.and_eq_true] at hfit
  obtain ⟨hn, ha, hb⟩ := hfit
  have hn : H.n = 100 := Nat.eq_of_beq_eq_true hn
  obtain rfl := allH_eq (fun a b => veq_eq _ a b) ha
  have hb0 := (baseOk_app hb).2
  obtain ⟨b0, o0, rfl, hd⟩ := look_args (x := g) (y := p) (z := f) rfl rfl rfl hargs
  rw [hn] at hfr
  have hcut : cutR 100 ρ = ρ := by
    funext id
    unfold cutR
    split
    · rfl
    · rename_i h; exact (hfr id (by omega)).symm
  obtain ⟨l3, h3⟩ := hfx 3 (by omega)
  have hc : AuAt g p f auB0 100 ρ w := by
    refine ⟨?_, hfx, hfr⟩
    have := hM.core (env' := envOf (auSyms g p f [])) (n := 100) (fl := []) hb0 low0 (fun _ _ => rfl) facts_nil ⟨_, h3⟩ (by omega)
    rw [hcut] at this
    exact this
  refine (look_ran hg0 hg1 hp0 hp1 hf0 hf1 b0 o0 w hc hd).imp ?_
  rintro v' w' ⟨rfl, hc', hu⟩
  have hP := core_post (base := auB0) (out := auOut) hM hb hb0 auOut_dep (by rw [hn]; exact self0) (by rw [hn]; exact low0) (by rw [hn]; exact hc') hu
  rw [hn] at hP
  exact ⟨_, List.mem_singleton.2 rfl, ρ, .tuple (.cons (.agg (.cons (.int _ _) (.cons (.int _ _) (.cons (.int _ _) (.cons (.int _ _) (.cons (.int _ _) (.cons (.int _ _) (.cons (.snil _ _) .nil)))))))) (.cons (.int _ _) .nil)), hP⟩
end
/-- What is run: the shape's ways. -/
noncomputable def X28a : List (Nat × XK) := (7, .known (.bool true) base0) :: X0
noncomputable def auRun (k : Nat) : Bool := allTrue (evCall T0 4 F0 X28a 1000 100 (.fn 3 [.agg ⟨[sy 0, sy 1, sy 2]⟩]) (Hf (auFacts k)))
noncomputable def auRunL : Bool := allTrue (evCall T0 4 F0 ((4, .snap [snLook]) :: X28a) 1000 100 (.fn 3 [.agg ⟨[sy 0, sy 1, sy 2]⟩]) (Hf (auFacts 6)))
end Go.Proofs.YtekflbnfagldcaaGreatDoor
