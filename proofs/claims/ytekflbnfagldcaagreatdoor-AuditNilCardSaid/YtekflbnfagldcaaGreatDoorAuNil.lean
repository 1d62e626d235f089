/-
  AuditNil returns true for every shape.
-/
import Derived.Test.YtekflbnfagldcaaGreatDoorAuRa
import Derived.Test.YtekflbnfagldcaaGreatDoorAwake28
namespace Go.Proofs.YtekflbnfagldcaaGreatDoor
open Go Ev Go.RowKit

theorem x28_ok {l : List Value} (h : l.all symB = true) : ExtOK Tryz.prog T0 (envOf l) 4 X28a := known_true (fun h => sn28_X_ok h) awake28_run h ext0
theorem au_runs (k : Nat) (hk : k ≤ 5) : auRun k = true := by
  rcases (by omega : k = 0 ∨ k = 1 ∨ k = 2 ∨ k = 3 ∨ k = 4 ∨ k = 5) with rfl | rfl | rfl | rfl | rfl | rfl
  · exact au_run0
  · exact au_run1
  · exact au_run2
  · exact au_run3
  · exact au_run4
  · exact au_run5
theorem au_way (g p f : Int) : (∃ k, k ≤ 5 ∧ FactOK (envOf (auSyms g p f [])) (auFacts k)) ∨ ((64 ≤ g ∧ g ≤ 1024) ∧ (1 ≤ p ∧ p ≤ 64) ∧ (1 ≤ f ∧ f ≤ 64) ∧ FactOK (envOf (auSyms g p f [])) (auFacts 6)) := by
  have d0 : den (envOf (auSyms g p f [])) (sy 0) = .int .i64 g := rfl
  have d1 : den (envOf (auSyms g p f [])) (sy 1) = .int .i64 p := rfl
  have d2 : den (envOf (auSyms g p f [])) (sy 2) = .int .i64 f := rfl
  have d3 : den (envOf (auSyms g p f [])) (sy 3) = .int .i64 (2 + g) := rfl
  have d4 : den (envOf (auSyms g p f [])) (sy 4) = .int .i64 (2 * p) := rfl
  have d5 : den (envOf (auSyms g p f [])) (sy 5) = .int .i64 (2 + g + 2 * p) := rfl
  have d6 : den (envOf (auSyms g p f [])) (sy 6) = .int .i64 (2 + g + 2 * p - 1) := rfl
  have dn : ∀ n, den (envOf (auSyms g p f [])) (nu n) = .int .i64 n := fun _ => rfl
  by_cases h1 : g < 64
  · exact .inl ⟨0, by omega, facts_below d0 (dn _) (decide_eq_true h1) facts_nil⟩
  by_cases h2 : 1024 < g
  · exact .inl ⟨1, by omega, facts_below d0 (dn _) (decide_eq_false h1) (facts_above d0 (dn _) (decide_eq_true h2) facts_nil)⟩
  by_cases h3 : p < 1
  · exact .inl ⟨2, by omega, facts_below d0 (dn _) (decide_eq_false h1) (facts_above d0 (dn _) (decide_eq_false h2) (facts_below d1 (dn _) (decide_eq_true h3) facts_nil))⟩
  by_cases h4 : 64 < p
  · exact .inl ⟨3, by omega, facts_below d0 (dn _) (decide_eq_false h1) (facts_above d0 (dn _) (decide_eq_false h2) (facts_below d1 (dn _) (decide_eq_false h3) (facts_above d1 (dn _) (decide_eq_true h4) facts_nil)))⟩
  by_cases h5 : f < 1
  · exact .inl ⟨4, by omega, facts_below d0 (dn _) (decide_eq_false h1) (facts_above d0 (dn _) (decide_eq_false h2) (facts_below d1 (dn _) (decide_eq_false h3) (facts_above d1 (dn _) (decide_eq_false h4) (facts_below d2 (dn _) (decide_eq_true h5) facts_nil))))⟩
  by_cases h6 : 64 < f
  · exact .inl ⟨5, by omega, facts_below d0 (dn _) (decide_eq_false h1) (facts_above d0 (dn _) (decide_eq_false h2) (facts_below d1 (dn _) (decide_eq_false h3) (facts_above d1 (dn _) (decide_eq_false h4) (facts_below d2 (dn _) (decide_eq_false h5) (facts_above d2 (dn _) (decide_eq_true h6) facts_nil)))))⟩
  refine .inr ⟨⟨by omega, by omega⟩, ⟨by omega, by omega⟩, ⟨by omega, by omega⟩, facts_below d0 (dn _) (decide_eq_false h1) (facts_above d0 (dn _) (decide_eq_false h2) (facts_below d1 (dn _) (decide_eq_false h3) (facts_above d1 (dn _) (decide_eq_false h4) (facts_below d2 (dn _) (decide_eq_false h5) (facts_above d2 (dn _) (decide_eq_false h6) ?_)))))⟩
  exact facts_num (dn _) d0 d3 (fact_add (by omega) (by omega) (by omega)) <| facts_num (dn _) d1 d4 (fact_mul (by omega) (by omega) (by omega)) <|
    facts_num d3 d4 d5 (fact_add (by omega) (by omega) (by omega)) <| facts_num d5 (dn _) d6 (fact_sub (by omega) (by omega) (by omega)) <|
    facts_bool d6 (dn _) (fact_lss (decide_eq_false (by omega))) <| facts_bool d6 (dn _) (fact_gtr (decide_eq_false (by omega))) <|
    facts_bool d5 (dn _) (fact_lss (decide_eq_false (by omega))) <| facts_bool d5 (dn _) (fact_gtr (decide_eq_false (by omega))) <|
    facts_bool d6 d5 (fact_lss (decide_eq_true (by omega))) <| facts_bool d5 d5 (fact_lss (decide_eq_false (by omega))) <|
    facts_bool d0 (dn _) (fact_lss (decide_eq_false (by omega))) <| facts_bool d5 d3 (fact_lss (decide_eq_false (by omega))) <|
    facts_bool (dn _) d5 (fact_geq (decide_eq_false (by omega))) <| facts_bool (dn _) d5 (fact_geq (decide_eq_false (by omega))) <|
    facts_bool (dn _) d0 (fact_lss (decide_eq_true (by omega))) <| facts_val (dn _) d0 (fact_rem (by simp) (by omega)) <| facts_bool d0 (dn _) (fact_gtr (decide_eq_false (by omega))) <| facts_bool d0 (dn _) (fact_lss (decide_eq_false (by omega))) <|
    facts_num (dn _) d0 d3 (fact_add (by omega) (by omega) (by omega)) <| facts_bool (dn _) d5 (fact_geq (decide_eq_false (by omega))) facts_nil
theorem auditNil_walk (g p f : Int) (w : World) (hw : HalfAt w) : Calls Tryz.prog 3 #[.agg #[.int .i64 g, .int .i64 p, .int .i64 f]] w fun e w' => e = .returned (.bool true) ∧ Below w.heap.size w w' := by
  have hl : (auSyms g p f []).all symB = true := rfl
  rcases au_way g p f with ⟨k, hk, hfs⟩ | ⟨⟨hg0, hg1⟩, ⟨hp0, hp1⟩, ⟨hf0, hf1⟩, hfs⟩
  · exact law_run hl (x28_ok hl) hfs (fn := Tryz.f3) (by kernel_rfl) rfl (au_runs k hk) hw fun ρ => .cons (.agg (.cons (.sym 0) (.cons (.sym 1) (.cons (.sym 2) .nil)))) .nil
  · exact law_run hl (look_known hg0 hg1 hp0 hp1 hf0 hf1 (x28_ok hl)) hfs (fn := Tryz.f3) (by kernel_rfl) rfl au_runL hw fun ρ => .cons (.agg (.cons (.sym 0) (.cons (.sym 1) (.cons (.sym 2) .nil)))) .nil
end Go.Proofs.YtekflbnfagldcaaGreatDoor
