/-
  PoolNil returns true for all its arguments.
-/
import Derived.Test.YtbmedcghekgjnaaGreatDoorPoolRa
import Derived.Test.YtbmedcghekgjnaaGreatDoorPoolRb
import Derived.Test.YtbmedcghekgjnaaGreatDoorAwake12
import Derived.Test.YtbmedcghekgjnaaGreatDoorSeatC
namespace Go.Proofs.YtbmedcghekgjnaaGreatDoor
open Go Ev Go.RowKit

theorem x12_ok {l : List Value} (h : l.all symB = true) : ExtOK Tryz.prog T0 (envOf l) 4 X12 := known_true (fun _ => ext0) awake12_run h ext0
theorem pool_runs (b : Bool) (k : Nat) (hk : k ≤ 6) : poolRun b k = true := by
  rcases (by omega : k = 0 ∨ k = 1 ∨ k = 2 ∨ k = 3 ∨ k = 4 ∨ k = 5 ∨ k = 6) with rfl | rfl | rfl | rfl | rfl | rfl | rfl <;> cases b
  · exact pool_run_false0
  · exact pool_run_true0
  · exact pool_run_false1
  · exact pool_run_true1
  · exact pool_run_false2
  · exact pool_run_true2
  · exact pool_run_false3
  · exact pool_run_true3
  · exact pool_run_false4
  · exact pool_run_true4
  · exact pool_run_false5
  · exact pool_run_true5
  · exact pool_run_false6
  · exact pool_run_true6
/-- A heap with the table and true facts. -/
theorem matchF {env : Nat → Value} {w : World} {ty : TypeId} {fz : Nat × Nat} {l : List (Nat × Nat × Int × Bool)} (hl : FactOK env l) (h : w.heap[0]? = some (.cells ⟨halfL⟩ ty fz)) : Match T0 env (ren0 ty fz) (Hf l) w := by
  refine match_base (fun id o hm => ?_) fun id id' lc lc' e e' hb => ren0_inj ty fz id id' lc lc' e e' hb
  simp only [base0, List.mem_cons, Prod.mk.injEq, List.not_mem_nil, or_false] at hm
  rcases hm with ⟨rfl, rfl⟩ | ⟨rfl, rfl⟩
  · exact ⟨rfl, by unfold idMost; omega, ⟨3, 0, 0⟩, rfl, hl⟩
  · exact ⟨rfl, by unfold idMost; omega, ⟨0, 0, tagN ty fz⟩, if_pos rfl, [], halfL, [], ty, fz, by simpa using h, rfl, closeds_refl closed_half, rfl, rfl⟩
theorem belowF {env : Nat → Value} {w w' : World} {ty : TypeId} {fz : Nat × Nat} {l : List (Nat × Nat × Int × Bool)} (hl : FactOK env l) {ρ' : Ren} {H' : HS} (h : w.heap[0]? = some (.cells ⟨halfL⟩ ty fz)) (hP : Post T0 env (ren0 ty fz) (Hf l) w ρ' H' w') (hb : baseOk H' base0 = true) : Below w.heap.size w w' := by
  refine below_of_post hP (Nat.le_refl _) ?_
  rintro k _ ⟨id, o, lc, h1, h2, h3, rfl⟩
  have h4 : (id, o) ∈ ((3, AObj.facts l) :: base0) := by
    rcases baseH_find ((3, .facts l) :: base0) .leaf id o h1 with h | h
    · exact h
    · rw [leaf_find] at h; cases h
  simp only [base0, List.mem_cons, Prod.mk.injEq, List.not_mem_nil, or_false] at h4
  rcases h4 with ⟨rfl, rfl⟩ | ⟨rfl, rfl⟩
  · cases h2
  have h5 : ren0 ty fz 0 = some ⟨0, 0, tagN ty fz⟩ := if_pos rfl
  rw [h5] at h3
  obtain rfl : ({ blk := 0, base := 0, spare := tagN ty fz } : Ev.Loc) = lc := by simpa using h3
  exact fixed_same (matchF hl h) hP closed_half h1 (baseOk_mem hb 0 _ (List.mem_singleton.2 rfl)) h5 rfl

theorem facts_nil {env : Nat → Value} : FactOK env [] := fun _ _ _ _ h => by cases h
theorem facts_cons {env : Nat → Value} {c i : Nat} {n m : Int} {b : Bool} {l : List (Nat × Nat × Int × Bool)} (hm : env i = .int .i64 m) (h : ∀ op, cmpNo op = c → intBin op .i64 m n = some (.bool b)) (hl : FactOK env l) : FactOK env ((c, i, n, b) :: l) := fun c' i' n' b' hmem => by
  simp only [List.mem_cons, Prod.mk.injEq] at hmem
  rcases hmem with ⟨rfl, rfl, rfl, rfl⟩ | hmem
  · exact ⟨m, hm, h⟩
  · exact hl _ _ _ _ hmem
theorem fact_lss {m n : Int} {b : Bool} (h : decide (m < n) = b) : ∀ op, cmpNo op = 1 → intBin op .i64 m n = some (.bool b) := by
  intro op ho
  cases op <;> simp only [cmpNo] at ho <;> first | cases ho | skip
  show some (Value.bool (!ile n m)) = _
  rw [ile_eq, ← h]
  by_cases hh : m < n <;> simp [hh] <;> omega
theorem fact_leq {m n : Int} {b : Bool} (h : decide (m ≤ n) = b) : ∀ op, cmpNo op = 2 → intBin op .i64 m n = some (.bool b) := by
  intro op ho
  cases op <;> simp only [cmpNo] at ho <;> first | cases ho | skip
  show some (Value.bool (ile m n)) = _
  rw [ile_eq, ← h]
theorem fact_gtr {m n : Int} {b : Bool} (h : decide (n < m) = b) : ∀ op, cmpNo op = 3 → intBin op .i64 m n = some (.bool b) := by
  intro op ho
  cases op <;> simp only [cmpNo] at ho <;> first | cases ho | skip
  show some (Value.bool (!ile m n)) = _
  rw [ile_eq, ← h]
  by_cases hh : n < m <;> simp [hh] <;> omega
theorem fact_geq {m n : Int} {b : Bool} (h : decide (n ≤ m) = b) : ∀ op, cmpNo op = 4 → intBin op .i64 m n = some (.bool b) := by
  intro op ho
  cases op <;> simp only [cmpNo] at ho <;> first | cases ho | skip
  show some (Value.bool (ile n m)) = _
  rw [ile_eq, ← h]
/-- Where the first test that is met stands. -/
theorem pool_way (env : Nat → Value) (p f b : Int) (hp : env 0 = .int .i64 p) (hf : env 1 = .int .i64 f) (hb : env 2 = .int .i64 b) : ∃ k, k ≤ 6 ∧ FactOK env (poolFacts k poolTests) := by
  have A1 : ∀ {i : Nat} {m n : Int} {l}, env i = .int .i64 m → m < n → FactOK env l → FactOK env ((1, i, n, true) :: (4, i, n, false) :: l) := fun hm h hl =>
    facts_cons hm (fact_lss (by simpa using h)) (facts_cons hm (fact_geq (by simpa using h)) hl)
  have A2 : ∀ {i : Nat} {m n : Int} {l}, env i = .int .i64 m → ¬ m < n → FactOK env l → FactOK env ((1, i, n, false) :: (4, i, n, true) :: l) := fun hm h hl =>
    facts_cons hm (fact_lss (by simpa using h)) (facts_cons hm (fact_geq (by simpa using h)) hl)
  have B1 : ∀ {i : Nat} {m n : Int} {l}, env i = .int .i64 m → n < m → FactOK env l → FactOK env ((3, i, n, true) :: (2, i, n, false) :: l) := fun hm h hl =>
    facts_cons hm (fact_gtr (by simpa using h)) (facts_cons hm (fact_leq (by simpa using h)) hl)
  have B2 : ∀ {i : Nat} {m n : Int} {l}, env i = .int .i64 m → ¬ n < m → FactOK env l → FactOK env ((3, i, n, false) :: (2, i, n, true) :: l) := fun hm h hl =>
    facts_cons hm (fact_gtr (by simpa using h)) (facts_cons hm (fact_leq (by simpa using h)) hl)
  by_cases h1 : p < 1
  · exact ⟨0, by omega, A1 hp h1 facts_nil⟩
  by_cases h2 : 64 < p
  · exact ⟨1, by omega, A2 hp h1 (B1 hp h2 facts_nil)⟩
  by_cases h3 : f < 1
  · exact ⟨2, by omega, A2 hp h1 (B2 hp h2 (A1 hf h3 facts_nil))⟩
  by_cases h4 : 64 < f
  · exact ⟨3, by omega, A2 hp h1 (B2 hp h2 (A2 hf h3 (B1 hf h4 facts_nil)))⟩
  by_cases h5 : b < 0
  · exact ⟨4, by omega, A2 hp h1 (B2 hp h2 (A2 hf h3 (B2 hf h4 (A1 hb h5 facts_nil))))⟩
  by_cases h6 : 4096 < b
  · exact ⟨5, by omega, A2 hp h1 (B2 hp h2 (A2 hf h3 (B2 hf h4 (A2 hb h5 (B1 hb h6 facts_nil)))))⟩
  · exact ⟨6, by omega, A2 hp h1 (B2 hp h2 (A2 hf h3 (B2 hf h4 (A2 hb h5 (B2 hb h6 facts_nil)))))⟩
set_option maxRecDepth 100000 in
theorem poolNil_walk (p f b n : Int) (key d : ByteArray) (hs : Bool) (w : World) (hw : HalfAt w) : Calls Tryz.prog 4 #[.int .i64 p, .int .i64 f, .int .i64 b, .int .i64 n, .string key, .agg #[.bool hs, .string d]] w fun e w' => e = .returned (.bool true) ∧ Below w.heap.size w w' := by
  obtain ⟨ty, fz, hh⟩ := hw
  have hl : [Value.int .i64 p, .int .i64 f, .int .i64 b, .int .i64 n, .string key, .string d].all symB = true := rfl
  obtain ⟨k, hk, hfacts⟩ := pool_way (envOf [.int .i64 p, .int .i64 f, .int .i64 b, .int .i64 n, .string key, .string d]) p f b rfl rfl rfl
  have hrun := pool_runs hs k hk
  unfold poolRun allTrue at hrun
  split at hrun
  rotate_left
  · cases hrun
  rename_i l hl'
  refine Calls.mono (ev_calls (fn := Tryz.f4) mix0 (cx0 hl) fns0 (x12_ok hl) (by kernel_rfl) rfl hl' (matchF hfacts hh) (ren0_fixed ty fz) (ren0_fresh ty fz) (.cons (.sym 0) (.cons (.sym 1) (.cons (.sym 2) (.cons (.sym 3) (.cons (.sym 4) (.cons (.agg (.cons (.bool hs) (.cons (.sym 5) .nil))) .nil))))))) ?_
  rintro e w' ⟨v', rfl, q, hq, ρ', hv, hP⟩
  have hok := List.all_eq_true.1 hrun q hq
  unfold okTrue at hok
  split at hok
  · rename_i hb'
    rw [hb'] at hv
    cases hv
    exact ⟨rfl, belowF hfacts hh hP hok⟩
  · cases hok
end Go.Proofs.YtbmedcghekgjnaaGreatDoor
