/-
  Which of two looks is less: both sides, by runs of the evaluator.
-/
import Derived.Test.YtdadfgaomighnaaGreatDoorFacts
import Derived.Test.YtdadfgaomighnaaGreatDoorTextB
namespace Go.Proofs.YtdadfgaomighnaaGreatDoor
open Go Ev Go.RowKit

noncomputable def okBool (r : Bool) (p : Value × HS) : Bool := match p.1, r with
  | .bool true, true => baseOk p.2 base0
  | .bool false, false => baseOk p.2 base0
  | _, _ => false
noncomputable def allBool (r : Bool) : Option (List (Value × HS)) → Bool
  | some l => l.all (okBool r)
  | none => false
/-- A whole run of a function, with symbols and what is known of them. -/
theorem bool_run {l : List Value} (hl : l.all symB = true) {X : List (Nat × XK)} (hX : ExtOK Tryz.prog T0 (envOf l) 8 X) {fs : List (Nat × Value × Value × Value)} (hfs : FactOK (envOf l) fs) {f fuel n : Nat} {fn : Func} {c : Code} {args args' : List Value} {r : Bool} (hf : F0.find f = some fn) (hb : fn.body = some c)
    (hrun : allBool r (evCall T0 8 F0 X fuel n (.fn f args) (Hf fs)) = true) {w : World} (hw : HalfAt w) (hargs : ∀ ρ, VRs ρ (envOf l) args args') : Calls Tryz.prog f ⟨args'⟩ w fun e w' => e = .returned (.bool r) ∧ Below w.heap.size w w' := by
  obtain ⟨ty, fz, hh⟩ := hw
  unfold allBool at hrun
  split at hrun
  rotate_left
  · cases hrun
  rename_i rl hr
  refine Calls.mono (ev_calls mix0 (cx0 hl) fns0 hX hf hb hr (matchF hfs hh) (ren0_fixed ty fz) (ren0_fresh ty fz) (hargs _)) ?_
  rintro e w' ⟨v', rfl, q, hq, ρ', hv, hP⟩
  have hok := List.all_eq_true.1 hrun q hq
  unfold okBool at hok
  split at hok
  · rename_i hb'
    rw [hb'] at hv
    cases hv
    exact ⟨rfl, belowF hfs hh hP hok⟩
  · rename_i hb'
    rw [hb'] at hv
    cases hv
    exact ⟨rfl, belowF hfs hh hP hok⟩
  · cases hok

/-- What is known where the first j numbers are alike (b: whether the next one is less). -/
noncomputable def lessFacts (b : Bool) : Nat → Nat → List (Nat × Value × Value × Value)
  | 0, i => [(6, sy i, sy (5 + i), .bool true), (1, sy i, sy (5 + i), .bool b)]
  | j + 1, i => (6, sy i, sy (5 + i), .bool false) :: lessFacts b j (i + 1)
noncomputable def evenFacts : List (Nat × Value × Value × Value) :=
  [(6, sy 0, sy 5, .bool false), (6, sy 1, sy 6, .bool false), (6, sy 2, sy 7, .bool false), (6, sy 3, sy 8, .bool false), (6, sy 4, sy 9, .bool false), (1, sy 4, sy 9, .bool false)]
noncomputable def lessArgs : List Value := [.agg ⟨[sy 0, sy 1, sy 4, sy 2, sy 3, sy 10, sy 12]⟩, .agg ⟨[sy 5, sy 6, sy 9, sy 7, sy 8, sy 11, sy 13]⟩]
noncomputable def lessRun (f : Nat) (b : Bool) (j : Nat) : Bool := allBool b (evCall T0 8 F0 X0 1000 100 (.fn f lessArgs) (Hf (lessFacts b j 0)))
noncomputable def evenRun (f : Nat) : Bool := allBool false (evCall T0 8 F0 X0 1000 100 (.fn f lessArgs) (Hf evenFacts))
theorem less_run_t0 : lessRun 8 true 0 = true := by kernel_rfl
theorem less_run_t1 : lessRun 8 true 1 = true := by kernel_rfl
theorem less_run_t2 : lessRun 8 true 2 = true := by kernel_rfl
theorem less_run_t3 : lessRun 8 true 3 = true := by kernel_rfl
theorem less_run_t4 : lessRun 8 true 4 = true := by kernel_rfl
theorem less_run_f0 : lessRun 8 false 0 = true := by kernel_rfl
theorem less_run_f1 : lessRun 8 false 1 = true := by kernel_rfl
theorem less_run_f2 : lessRun 8 false 2 = true := by kernel_rfl
theorem less_run_f3 : lessRun 8 false 3 = true := by kernel_rfl
theorem less_run_f4 : lessRun 8 false 4 = true := by kernel_rfl
theorem less_run_e : evenRun 8 = true := by kernel_rfl
theorem ref_run_t0 : lessRun 9 true 0 = true := by kernel_rfl
theorem ref_run_t1 : lessRun 9 true 1 = true := by kernel_rfl
theorem ref_run_t2 : lessRun 9 true 2 = true := by kernel_rfl
theorem ref_run_t3 : lessRun 9 true 3 = true := by kernel_rfl
theorem ref_run_t4 : lessRun 9 true 4 = true := by kernel_rfl
theorem ref_run_f0 : lessRun 9 false 0 = true := by kernel_rfl
theorem ref_run_f1 : lessRun 9 false 1 = true := by kernel_rfl
theorem ref_run_f2 : lessRun 9 false 2 = true := by kernel_rfl
theorem ref_run_f3 : lessRun 9 false 3 = true := by kernel_rfl
theorem ref_run_f4 : lessRun 9 false 4 = true := by kernel_rfl
theorem ref_run_e : evenRun 9 = true := by kernel_rfl

theorem fact_neq {m n : Int} {b : Bool} (h : decide (m = n) = !b) : ∀ op, cmpNo op = 6 → intBin op .i64 m n = some (.bool b) := by
  intro op ho
  cases op <;> simp only [cmpNo] at ho <;> first | cases ho | skip
  show some (Value.bool (!ieq m n)) = _
  by_cases hh : m = n
  · rw [ieq_iff.2 hh]
    have : b = false := by simpa [hh] using h
    rw [this]; rfl
  · have h2 : ieq m n = false := by
      cases hi : ieq m n with
      | false => rfl
      | true => exact absurd (ieq_iff.1 hi) hh
    rw [h2]
    have : b = true := by simpa [hh] using h
    rw [this]; rfl
def lessSyms (a b : AuD) (A : Option Addr) (n c : Nat) (B : Option Addr) (m d : Nat) : List Value :=
  [.int .i64 a.inc, .int .i64 a.first, .int .i64 a.check, .int .i64 a.pages, .int .i64 a.last, .int .i64 b.inc, .int .i64 b.first, .int .i64 b.check, .int .i64 b.pages, .int .i64 b.last, .int .i64 a.torn, .int .i64 b.torn, .slice A n c, .slice B m d]
/-- Is a look less than another one? -/
def lessB (a b : AuD) : Bool :=
  if a.inc ≠ b.inc then decide (a.inc < b.inc) else if a.first ≠ b.first then decide (a.first < b.first) else if a.check ≠ b.check then decide (a.check < b.check) else if a.pages ≠ b.pages then decide (a.pages < b.pages) else decide (a.last < b.last)
theorem less_way (a b : AuD) (A : Option Addr) (n c : Nat) (B : Option Addr) (m d : Nat) :
    (∃ j, j ≤ 4 ∧ FactOK (envOf (lessSyms a b A n c B m d)) (lessFacts (lessB a b) j 0)) ∨ (lessB a b = false ∧ FactOK (envOf (lessSyms a b A n c B m d)) evenFacts) := by
  have d0 : den (envOf (lessSyms a b A n c B m d)) (sy 0) = .int .i64 a.inc := rfl
  have d1 : den (envOf (lessSyms a b A n c B m d)) (sy 1) = .int .i64 a.first := rfl
  have d2 : den (envOf (lessSyms a b A n c B m d)) (sy 2) = .int .i64 a.check := rfl
  have d3 : den (envOf (lessSyms a b A n c B m d)) (sy 3) = .int .i64 a.pages := rfl
  have d4 : den (envOf (lessSyms a b A n c B m d)) (sy 4) = .int .i64 a.last := rfl
  have d5 : den (envOf (lessSyms a b A n c B m d)) (sy 5) = .int .i64 b.inc := rfl
  have d6 : den (envOf (lessSyms a b A n c B m d)) (sy 6) = .int .i64 b.first := rfl
  have d7 : den (envOf (lessSyms a b A n c B m d)) (sy 7) = .int .i64 b.check := rfl
  have d8 : den (envOf (lessSyms a b A n c B m d)) (sy 8) = .int .i64 b.pages := rfl
  have d9 : den (envOf (lessSyms a b A n c B m d)) (sy 9) = .int .i64 b.last := rfl
  unfold lessB
  by_cases h0 : a.inc = b.inc
  rotate_left
  · exact .inl ⟨0, by omega, by rw [if_pos h0]; exact facts_bool d0 d5 (fact_neq (by simp [h0])) (facts_bool d0 d5 (fact_lss rfl) facts_nil)⟩
  have f0 := fact_neq (b := false) (decide_eq_true h0 : decide (a.inc = b.inc) = true)
  rw [if_neg (by simpa using h0)]
  by_cases h1 : a.first = b.first
  rotate_left
  · exact .inl ⟨1, by omega, by rw [if_pos h1]; exact facts_bool d0 d5 f0 (facts_bool d1 d6 (fact_neq (by simp [h1])) (facts_bool d1 d6 (fact_lss rfl) facts_nil))⟩
  have f1 := fact_neq (b := false) (decide_eq_true h1 : decide (a.first = b.first) = true)
  rw [if_neg (by simpa using h1)]
  by_cases h2 : a.check = b.check
  rotate_left
  · exact .inl ⟨2, by omega, by rw [if_pos h2]; exact facts_bool d0 d5 f0 (facts_bool d1 d6 f1 (facts_bool d2 d7 (fact_neq (by simp [h2])) (facts_bool d2 d7 (fact_lss rfl) facts_nil)))⟩
  have f2 := fact_neq (b := false) (decide_eq_true h2 : decide (a.check = b.check) = true)
  rw [if_neg (by simpa using h2)]
  by_cases h3 : a.pages = b.pages
  rotate_left
  · exact .inl ⟨3, by omega, by rw [if_pos h3]; exact facts_bool d0 d5 f0 (facts_bool d1 d6 f1 (facts_bool d2 d7 f2 (facts_bool d3 d8 (fact_neq (by simp [h3])) (facts_bool d3 d8 (fact_lss rfl) facts_nil))))⟩
  have f3 := fact_neq (b := false) (decide_eq_true h3 : decide (a.pages = b.pages) = true)
  rw [if_neg (by simpa using h3)]
  by_cases h4 : a.last = b.last
  rotate_left
  · exact .inl ⟨4, by omega, facts_bool d0 d5 f0 (facts_bool d1 d6 f1 (facts_bool d2 d7 f2 (facts_bool d3 d8 f3 (facts_bool d4 d9 (fact_neq (by simp [h4])) (facts_bool d4 d9 (fact_lss rfl) facts_nil)))))⟩
  have f4 := fact_neq (b := false) (decide_eq_true h4 : decide (a.last = b.last) = true)
  exact .inr ⟨by simp [h4], facts_bool d0 d5 f0 (facts_bool d1 d6 f1 (facts_bool d2 d7 f2 (facts_bool d3 d8 f3 (facts_bool d4 d9 f4 (facts_bool d4 d9 (fact_lss (by simp [h4])) facts_nil)))))⟩
theorem less_args (a b : AuD) (A : Option Addr) (n c : Nat) (B : Option Addr) (m d : Nat) (ρ : Ren) : VRs ρ (envOf (lessSyms a b A n c B m d)) lessArgs [.agg (a.cells A n c), .agg (b.cells B m d)] :=
  .cons (.agg (.cons (.sym 0) (.cons (.sym 1) (.cons (.sym 4) (.cons (.sym 2) (.cons (.sym 3) (.cons (.sym 10) (.cons (.sym 12) .nil)))))))) (.cons (.agg (.cons (.sym 5) (.cons (.sym 6) (.cons (.sym 9) (.cons (.sym 7) (.cons (.sym 8) (.cons (.sym 11) (.cons (.sym 13) .nil)))))))) .nil)
theorem less_runs (b : Bool) (j : Nat) (hj : j ≤ 4) : lessRun 8 b j = true := by
  rcases (by omega : j = 0 ∨ j = 1 ∨ j = 2 ∨ j = 3 ∨ j = 4) with rfl | rfl | rfl | rfl | rfl <;> cases b
  · exact less_run_f0
  · exact less_run_t0
  · exact less_run_f1
  · exact less_run_t1
  · exact less_run_f2
  · exact less_run_t2
  · exact less_run_f3
  · exact less_run_t3
  · exact less_run_f4
  · exact less_run_t4
theorem ref_runs (b : Bool) (j : Nat) (hj : j ≤ 4) : lessRun 9 b j = true := by
  rcases (by omega : j = 0 ∨ j = 1 ∨ j = 2 ∨ j = 3 ∨ j = 4) with rfl | rfl | rfl | rfl | rfl <;> cases b
  · exact ref_run_f0
  · exact ref_run_t0
  · exact ref_run_f1
  · exact ref_run_t1
  · exact ref_run_f2
  · exact ref_run_t2
  · exact ref_run_f3
  · exact ref_run_t3
  · exact ref_run_f4
  · exact ref_run_t4
theorem less_ok (a b : AuD) (A : Option Addr) (n c : Nat) (B : Option Addr) (m d : Nat) (w : World) (hw : HalfAt w) : Calls Tryz.prog 8 #[.agg (a.cells A n c), .agg (b.cells B m d)] w fun e w' => e = .returned (.bool (lessB a b)) ∧ Below w.heap.size w w' := by
  have hl : (lessSyms a b A n c B m d).all symB = true := rfl
  rcases less_way a b A n c B m d with ⟨j, hj, hf⟩ | ⟨h, hf⟩
  · exact bool_run hl ext0 hf (fn := Tryz.f8) (by kernel_rfl) rfl (less_runs _ j hj) hw (less_args a b A n c B m d)
  · rw [h]
    exact bool_run hl ext0 hf (fn := Tryz.f8) (by kernel_rfl) rfl less_run_e hw (less_args a b A n c B m d)
theorem refLess_ok (a b : AuD) (A : Option Addr) (n c : Nat) (B : Option Addr) (m d : Nat) (w : World) (hw : HalfAt w) : Calls Tryz.prog 9 #[.agg (a.cells A n c), .agg (b.cells B m d)] w fun e w' => e = .returned (.bool (lessB a b)) ∧ Below w.heap.size w w' := by
  have hl : (lessSyms a b A n c B m d).all symB = true := rfl
  rcases less_way a b A n c B m d with ⟨j, hj, hf⟩ | ⟨h, hf⟩
  · exact bool_run hl ext0 hf (fn := Tryz.f9) (by kernel_rfl) rfl (ref_runs _ j hj) hw (less_args a b A n c B m d)
  · rw [h]
    exact bool_run hl ext0 hf (fn := Tryz.f9) (by kernel_rfl) rfl ref_run_e hw (less_args a b A n c B m d)
end Go.Proofs.YtdadfgaomighnaaGreatDoor
