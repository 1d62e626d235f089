/-
  What is known of symbols: laws.
-/
import Derived.Test.YtdadfgaomighnaaGreatDoorSnapB
namespace Go.Proofs.YtdadfgaomighnaaGreatDoor
open Go Ev Go.RowKit

/-- A heap with the table, and what is known of symbols. -/
noncomputable def Hf (l : List (Nat × Value × Value × Value)) : HS := ⟨baseH ((3, .facts l) :: base0) .leaf, 8, []⟩
noncomputable def allTrue : Option (List (Value × HS)) → Bool
  | some l => l.all okTrue
  | none => false
/-- A symbol. -/
abbrev sy (i : Nat) : Value := .float .f32 i
abbrev nu (n : Int) : Value := .int .i64 n

/-- A heap with the table and true facts. -/
theorem matchF {env : Nat → Value} {w : World} {ty : TypeId} {fz : Nat × Nat} {l : List (Nat × Value × Value × Value)} (hl : FactOK env l) (h : w.heap[6]? = some (.cells ⟨halfL⟩ ty fz)) : Match T0 env (ren0 ty fz) (Hf l) w := by
  refine match_base (fun id o hm => ?_) fun id id' lc lc' e e' hb => ren0_inj ty fz id id' lc lc' e e' hb
  simp only [base0, List.mem_cons, Prod.mk.injEq, List.not_mem_nil, or_false] at hm
  rcases hm with ⟨rfl, rfl⟩ | ⟨rfl, rfl⟩
  · exact ⟨rfl, by unfold idMost; omega, ⟨3, 0, 0⟩, rfl, hl⟩
  · exact ⟨rfl, by unfold idMost; omega, ⟨6, 0, tagN ty fz⟩, if_pos rfl, [], halfL, [], ty, fz, by simpa using h, rfl, closeds_refl closed_half, rfl, rfl⟩
theorem belowF {env : Nat → Value} {w w' : World} {ty : TypeId} {fz : Nat × Nat} {l : List (Nat × Value × Value × Value)} (hl : FactOK env l) {ρ' : Ren} {H' : HS} (h : w.heap[6]? = some (.cells ⟨halfL⟩ ty fz)) (hP : Post T0 env (ren0 ty fz) (Hf l) w ρ' H' w') (hb : baseOk H' base0 = true) : Below w.heap.size w w' := by
  refine below_of_post hP (Nat.le_refl _) ?_
  rintro k _ ⟨id, o, lc, h1, h2, h3, rfl⟩
  have h4 : (id, o) ∈ ((3, AObj.facts l) :: base0) := by
    rcases baseH_find ((3, .facts l) :: base0) .leaf id o h1 with h | h
    · exact h
    · rw [leaf_find] at h; cases h
  simp only [base0, List.mem_cons, Prod.mk.injEq, List.not_mem_nil, or_false] at h4
  rcases h4 with ⟨rfl, rfl⟩ | ⟨rfl, rfl⟩
  · cases h2
  have h5 : ren0 ty fz 6 = some ⟨6, 0, tagN ty fz⟩ := if_pos rfl
  rw [h5] at h3
  obtain rfl : ({ blk := 6, base := 0, spare := tagN ty fz } : Ev.Loc) = lc := by simpa using h3
  exact fixed_same (matchF hl h) hP closed_half h1 (baseOk_mem hb 6 _ (List.mem_singleton.2 rfl)) h5 rfl
theorem facts_nil {env : Nat → Value} : FactOK env [] := fun _ _ _ _ h => by cases h
theorem facts_append {env : Nat → Value} {l l' : List (Nat × Value × Value × Value)} (h : FactOK env l) (h' : FactOK env l') : FactOK env (l ++ l') := fun c x y v hm => by
  rcases List.mem_append.1 hm with hm | hm
  · exact h c x y v hm
  · exact h' c x y v hm
theorem facts_bool {env : Nat → Value} {c : Nat} {x y : Value} {m n : Int} {b : Bool} {l : List (Nat × Value × Value × Value)} (hx : den env x = .int .i64 m) (hy : den env y = .int .i64 n) (h : ∀ op, cmpNo op = c → intBin op .i64 m n = some (.bool b)) (hl : FactOK env l) : FactOK env ((c, x, y, .bool b) :: l) := fun c' x' y' v' hmem => by
  simp only [List.mem_cons, Prod.mk.injEq] at hmem
  rcases hmem with ⟨rfl, rfl, rfl, rfl⟩ | hmem
  · exact ⟨m, n, hx, hy, trivial, fun _ h => (by cases h), h⟩
  · exact hl _ _ _ _ hmem
theorem facts_num {env : Nat → Value} {c j : Nat} {x y : Value} {m n k : Int} {l : List (Nat × Value × Value × Value)} (hx : den env x = .int .i64 m) (hy : den env y = .int .i64 n) (hj : env j = .int .i64 k) (h : ∀ op, cmpNo op = c → intBin op .i64 m n = some (.int .i64 k)) (hl : FactOK env l) : FactOK env ((c, x, y, sy j) :: l) := fun c' x' y' v' hmem => by
  simp only [List.mem_cons, Prod.mk.injEq] at hmem
  rcases hmem with ⟨rfl, rfl, rfl, rfl⟩ | hmem
  · refine ⟨m, n, hx, hy, trivial, fun i hi => ?_, fun op ho => ?_⟩
    · injection hi with _ hi
      subst hi
      exact ⟨k, hj⟩
    · rw [h op ho, show den env (sy j) = env j from rfl, hj]
  · exact hl _ _ _ _ hmem
theorem fact_lss {m n : Int} {b : Bool} (h : decide (m < n) = b) : ∀ op, cmpNo op = 1 → intBin op .i64 m n = some (.bool b) := by
  intro op ho
  cases op <;> simp only [cmpNo] at ho <;> first | cases ho | skip
  show some (Value.bool (!ile n m)) = _
  rw [ile_eq, ← h]
  by_cases hh : m < n <;> simp [hh] <;> omega
theorem fact_leq {m n : Int} {b : Bool} (h : decide (m ≤ n) = b) : ∀ op, cmpNo op = 2 → intBin op .i64 m n = some (.bool b) := by
  intro op ho
  cases op <;> simp only [cmpNo] at ho <;> first | cases ho | skip
  show some (Value.bool (ile m n)) = _
  rw [ile_eq, ← h]
theorem fact_gtr {m n : Int} {b : Bool} (h : decide (n < m) = b) : ∀ op, cmpNo op = 3 → intBin op .i64 m n = some (.bool b) := by
  intro op ho
  cases op <;> simp only [cmpNo] at ho <;> first | cases ho | skip
  show some (Value.bool (!ile m n)) = _
  rw [ile_eq, ← h]
  by_cases hh : n < m <;> simp [hh] <;> omega
theorem fact_geq {m n : Int} {b : Bool} (h : decide (n ≤ m) = b) : ∀ op, cmpNo op = 4 → intBin op .i64 m n = some (.bool b) := by
  intro op ho
  cases op <;> simp only [cmpNo] at ho <;> first | cases ho | skip
  show some (Value.bool (ile n m)) = _
  rw [ile_eq, ← h]
theorem wrap_small {n : Int} (h0 : 0 ≤ n) (h1 : n < 9223372036854775808) : wrapK .i64 n = n := by
  obtain ⟨m, rfl⟩ := Int.eq_ofNat_of_zero_le h0
  have hm : m < 9223372036854775808 := by omega
  show ofU .i64 (m % 18446744073709551616) = _
  rw [Nat.mod_eq_of_lt (by omega)]
  unfold ofU
  have : Nat.ble (kMod .i64 / 2) m = false := by
    rw [Bool.eq_false_iff]
    intro h
    have := Nat.le_of_ble_eq_true h
    have h2 : kMod .i64 / 2 = 9223372036854775808 := rfl
    omega
  rw [this]
  rfl
theorem fact_add {m n k : Int} (h : m + n = k) (h0 : 0 ≤ k) (h1 : k < 9223372036854775808) : ∀ op, cmpNo op = 7 → intBin op .i64 m n = some (.int .i64 k) := by
  intro op ho
  cases op <;> simp only [cmpNo] at ho <;> first | cases ho | skip
  show some (Value.int .i64 (wrapK .i64 (m + n))) = _
  rw [h, wrap_small h0 h1]
theorem fact_sub {m n k : Int} (h : m - n = k) (h0 : 0 ≤ k) (h1 : k < 9223372036854775808) : ∀ op, cmpNo op = 8 → intBin op .i64 m n = some (.int .i64 k) := by
  intro op ho
  cases op <;> simp only [cmpNo] at ho <;> first | cases ho | skip
  show some (Value.int .i64 (wrapK .i64 (m - n))) = _
  rw [h, wrap_small h0 h1]
theorem fact_mul {m n k : Int} (h : m * n = k) (h0 : 0 ≤ k) (h1 : k < 9223372036854775808) : ∀ op, cmpNo op = 9 → intBin op .i64 m n = some (.int .i64 k) := by
  intro op ho
  cases op <;> simp only [cmpNo] at ho <;> first | cases ho | skip
  show some (Value.int .i64 (wrapK .i64 (m * n))) = _
  rw [h, wrap_small h0 h1]
/-- A test, and its contrary: below. -/
theorem facts_below {env : Nat → Value} {x y : Value} {m n : Int} {b : Bool} {l : List (Nat × Value × Value × Value)} (hx : den env x = .int .i64 m) (hy : den env y = .int .i64 n) (h : decide (m < n) = b) (hl : FactOK env l) : FactOK env ((1, x, y, .bool b) :: (4, x, y, .bool (!b)) :: l) :=
  facts_bool hx hy (fact_lss h) (facts_bool hx hy (fact_geq (by rw [← h]; by_cases hh : m < n <;> simp [hh] <;> omega)) hl)
theorem facts_above {env : Nat → Value} {x y : Value} {m n : Int} {b : Bool} {l : List (Nat × Value × Value × Value)} (hx : den env x = .int .i64 m) (hy : den env y = .int .i64 n) (h : decide (n < m) = b) (hl : FactOK env l) : FactOK env ((3, x, y, .bool b) :: (2, x, y, .bool (!b)) :: l) :=
  facts_bool hx hy (fact_gtr h) (facts_bool hx hy (fact_leq (by rw [← h]; by_cases hh : n < m <;> simp [hh] <;> omega)) hl)
/-- A whole run of a law, with symbols and what is known of them. -/
theorem law_run {l : List Value} (hl : l.all symB = true) {X : List (Nat × XK)} (hX : ExtOK Tryz.prog T0 (envOf l) 8 X) {fs : List (Nat × Value × Value × Value)} (hfs : FactOK (envOf l) fs) {f fuel n : Nat} {fn : Func} {c : Code} {args args' : List Value} (hf : F0.find f = some fn) (hb : fn.body = some c)
    (hrun : allTrue (evCall T0 8 F0 X fuel n (.fn f args) (Hf fs)) = true) {w : World} (hw : HalfAt w) (hargs : ∀ ρ, VRs ρ (envOf l) args args') : Calls Tryz.prog f ⟨args'⟩ w fun e w' => e = .returned (.bool true) ∧ Below w.heap.size w w' := by
  obtain ⟨ty, fz, hh⟩ := hw
  unfold allTrue at hrun
  split at hrun
  rotate_left
  · cases hrun
  rename_i r hr
  refine Calls.mono (ev_calls mix0 (cx0 hl) fns0 hX hf hb hr (matchF hfs hh) (ren0_fixed ty fz) (ren0_fresh ty fz) (hargs _)) ?_
  rintro e w' ⟨v', rfl, q, hq, ρ', hv, hP⟩
  have hok := List.all_eq_true.1 hrun q hq
  unfold okTrue at hok
  split at hok
  · rename_i hb'
    rw [hb'] at hv
    cases hv
    exact ⟨rfl, belowF hfs hh hP hok⟩
  · cases hok
end Go.Proofs.YtdadfgaomighnaaGreatDoor
