/-
  The seat's program in the evaluator: worlds that hold the package's table; functions that are known.
-/
import Derived.Test.YtljmmkjdlcfkpaaGreatDoorSeat
import Derived.Laws.Externs
namespace Go.Proofs.YtljmmkjdlcfkpaaGreatDoor
open Go Go.RowKit Ev

theorem closeds_refl {ρ : Ren} {env : Nat → Value} {d : Nat} : ∀ {l : List Value}, l.all (closedB d) = true → VRs ρ env l l := by
  intro l
  induction l with
  | nil => intro _; exact .nil
  | cons x l ih =>
    intro h
    simp only [List.all_cons, Bool.and_eq_true] at h
    exact .cons (closed_self h.1) (ih h.2)
/-- The table lies in a world. -/
noncomputable def HalfAt (w : World) : Prop := ∃ ty fz, w.heap[0]? = some (.cells ⟨halfL⟩ ty fz)
noncomputable def ren0 (ty : TypeId) (fz : Nat × Nat) : Ren := fun id => if id = 0 then some ⟨0, 0, tagN ty fz⟩ else if id < 1 then some ⟨id, 0, 0⟩ else none
theorem ren0_fixed (ty : TypeId) (fz : Nat × Nat) : Fixed (ren0 ty fz) 1 := fun g hg => by
  unfold ren0
  by_cases h : g = 0
  · subst h; exact ⟨_, if_pos rfl⟩
  · exact ⟨0, by rw [if_neg h, if_pos hg]⟩
theorem ren0_fresh (ty : TypeId) (fz : Nat × Nat) : Fresh (ren0 ty fz) 1 := fun id h => by
  unfold ren0
  rw [if_neg (by omega), if_neg (by omega)]
theorem ren0_inj (ty : TypeId) (fz : Nat × Nat) (id id' : Nat) (l l' : Ev.Loc) (h : ren0 ty fz id = some l) (h' : ren0 ty fz id' = some l') (e : l.blk = l'.blk) : id = id' := by
  have key : ∀ i lc, ren0 ty fz i = some lc → lc.blk = i := by
    intro i lc hi
    unfold ren0 at hi
    split at hi
    · rename_i h0; subst h0; simp only [Option.some.injEq] at hi; rw [← hi]
    · split at hi
      · simp only [Option.some.injEq] at hi; rw [← hi]
      · cases hi
  rw [← key id l h, ← key id' l' h', e]
theorem closed_half : halfL.all (closedB 3) = true := by kernel_rfl
theorem match0 {T : TT TypeInfo} {env : Nat → Value} {w : World} {ty : TypeId} {fz : Nat × Nat} (h : w.heap[0]? = some (.cells ⟨halfL⟩ ty fz)) : Match T env (ren0 ty fz) H0 w := by
  refine match_base (fun id o hm => ?_) fun id id' lc lc' e e' hb => ren0_inj ty fz id id' lc lc' e e' hb
  simp only [base0, List.mem_singleton, Prod.mk.injEq] at hm
  obtain ⟨rfl, rfl⟩ := hm
  refine ⟨rfl, by unfold idMost; omega, ⟨0, 0, tagN ty fz⟩, if_pos rfl, [], halfL, [], ty, fz, by simpa using h, rfl, ?_, rfl, rfl⟩
  exact closeds_refl closed_half
theorem base0_found : H0.h.find 0 = some (.fixed halfL) := rfl
/-- All that a run from the table alone changes is new, if the table is as it was. -/
theorem below0 {T : TT TypeInfo} {env : Nat → Value} {w w' : World} {ty : TypeId} {fz : Nat × Nat} {ρ' : Ren} {H' : HS} (h : w.heap[0]? = some (.cells ⟨halfL⟩ ty fz)) (hP : Post T env (ren0 ty fz) H0 w ρ' H' w') (hb : baseOk H' base0 = true) : Below w.heap.size w w' := by
  refine below_of_post hP (Nat.le_refl _) ?_
  rintro k _ ⟨id, o, l, h1, h2, h3, rfl⟩
  have h4 : (id, o) ∈ base0 := by
    rcases baseH_find base0 .leaf id o h1 with h | h
    · exact h
    · rw [leaf_find] at h; cases h
  simp only [base0, List.mem_singleton, Prod.mk.injEq] at h4
  obtain ⟨rfl, rfl⟩ := h4
  have h5 : ren0 ty fz 0 = some ⟨0, 0, tagN ty fz⟩ := if_pos rfl
  rw [h5] at h3
  obtain rfl : ({ blk := 0, base := 0, spare := tagN ty fz } : Ev.Loc) = l := by simpa using h3
  exact fixed_same (match0 h) hP closed_half base0_found (baseOk_mem hb 0 _ (List.mem_singleton.2 rfl)) h5 rfl
theorem HalfAt.below {w w' : World} (h : HalfAt w) (hb : Below w.heap.size w w') : HalfAt w' := by
  obtain ⟨ty, fz, h⟩ := h
  have hlt : 0 < w.heap.size := lt_of_heap h
  exact ⟨ty, fz, (hb.block 0 hlt).trans h⟩

/-- Symbols. -/
noncomputable def envOf (l : List Value) : Nat → Value := fun i => l.getD i (.int .i64 0)
noncomputable def symB (v : Value) : Bool := v.oneCell' && (match v with | .bool _ => false | _ => true)
theorem envOf_ok {l : List Value} (h : l.all symB = true) : (∀ i, (envOf l i).oneCell' = true) ∧ ∀ i b, envOf l i ≠ .bool b := by
  have key : ∀ i, symB (envOf l i) = true := by
    intro i
    unfold envOf
    rw [List.getD_eq_getElem?_getD]
    cases hi : l[i]? with
    | none => rfl
    | some v => exact List.all_eq_true.1 h v (List.mem_of_getElem? hi)
  refine ⟨fun i => ?_, fun i b e => ?_⟩
  · have := key i
    simp only [symB, Bool.and_eq_true] at this
    exact this.1
  · have := key i
    rw [e] at this
    simp [symB] at this
theorem cx0 {l : List Value} (h : l.all symB = true) : Cx Tryz.prog T0 (envOf l) 1 := cx_ok tys0 (envOf_ok h).1 (envOf_ok h).2

/-- What is asked of an outcome: true, and the table as it was. -/
noncomputable def okTrue (p : Value × HS) : Bool := match p.1 with
  | .bool true => baseOk p.2 base0
  | _ => false
theorem okTrue_post {env : Nat → Value} {w : World} {ty : TypeId} {fz : Nat × Nat} (h : w.heap[0]? = some (.cells ⟨halfL⟩ ty fz)) (v' : Value) (w' : World) (p : Value × HS) (ρ' : Ren) (hp : okTrue p = true) (hv : VR ρ' env p.1 v') (hP : Post T0 env (ren0 ty fz) H0 w ρ' p.2 w') :
    (Ending.returned v' = .returned (.bool true)) ∧ Below w.heap.size w w' := by
  unfold okTrue at hp
  split at hp
  · rename_i hb
    rw [hb] at hv
    cases hv
    exact ⟨rfl, below0 h hP hp⟩
  · cases hp

/-! ### functions without a Go body, and what is known -/
noncomputable def X1 : List (Nat × XK) := []
noncomputable def X0 : List (Nat × XK) := (88, .clone) :: X1
theorem row_clone : RowOK Tryz.prog 88 .clone := fun args w => by
  rw [run_callFunc_extern Tryz.func88 (by kernel_rfl) (by kernel_rfl) (by kernel_rfl) (e := xkSem .clone) (by kernel_rfl)]
theorem ext1 {env : Nat → Value} : ExtOK Tryz.prog T0 env 1 X1 := fun f k hk => by cases hk
theorem ext0 {env : Nat → Value} : ExtOK Tryz.prog T0 env 1 X0 := fun f k hk args H l hE ρ w args' hM hfx hfr hargs => by
  simp only [X0, look2, cond_eq] at hk
  split at hk
  · rename_i h
    obtain rfl := Nat.eq_of_beq_eq_true h
    simp only [Option.some.injEq] at hk
    subst hk
    exact evX_ok row_clone (fun _ _ h => by cases h) (fun _ h => by cases h) hE hM hfr hargs
  · exact ext1 f k hk args H l hE ρ w args' hM hfx hfr hargs
theorem calls0 {l : List Value} (h : l.all symB = true) {X : List (Nat × XK)} (hX : ExtOK Tryz.prog T0 (envOf l) 1 X) (fuel n : Nat) : CallOK T0 (envOf l) Tryz.prog 1 (evCall T0 1 F0 X fuel n) :=
  evCall_ok (fuel := fuel) (cx0 h) fns0 hX (fun _ h' => draw_ok mix0 (cx0 h) h') n
/-- A function that was run from the table alone, and gave true, is known. -/
theorem ext_known {l : List Value} (h : l.all symB = true) {f fuel n : Nat} (hrun : oneTrue base0 (evCall T0 1 F0 X0 fuel n (.fn f []) H0) = true) : ExtOK Tryz.prog T0 (envOf l) 1 ((f, .known (.bool true) base0) :: X0) := fun g k hk args H l' hE ρ w args' hM hfx hfr hargs => by
  simp only [look2, cond_eq] at hk
  split at hk
  · rename_i hg
    obtain rfl := Nat.eq_of_beq_eq_true hg
    simp only [Option.some.injEq] at hk
    subst hk
    obtain ⟨H1, hrun, hb1⟩ := oneTrue_some hrun
    exact known_ok (T := T0) (env := envOf l) (n0 := 1) (H1 := H1) (G := 1) rfl rfl (Nat.le_refl _) hb1 (fun ρ w hM hfx hfr => (calls0 h ext0 fuel n).fn f [] H0 _ hrun ρ w [] hM hfx hfr .nil) args H l' hE ρ w args' hM hfx hfr hargs
  · exact ext0 g k hk args H l' hE ρ w args' hM hfx hfr hargs
/-- A function that was run from the table alone, and gave true, gives true. -/
theorem calls_known {f fuel n : Nat} {fn : Func} {c : Code} (hf : F0.find f = some fn) (hb : fn.body = some c) (hrun : oneTrue base0 (evCall T0 1 F0 X0 fuel n (.fn f []) H0) = true) {w : World} (hw : HalfAt w) :
    Calls Tryz.prog f #[] w fun e w' => e = .returned (.bool true) ∧ Below w.heap.size w w' := by
  obtain ⟨ty, fz, hw⟩ := hw
  obtain ⟨H1, hrun, hb1⟩ := oneTrue_some hrun
  refine Calls.mono (ev_calls (args' := []) (env := envOf []) mix0 (cx0 rfl) fns0 ext0 hf hb hrun (match0 hw) (ren0_fixed ty fz) (ren0_fresh ty fz) .nil) ?_
  rintro e w' ⟨v', rfl, p, hp, ρ', hv, hP⟩
  rw [List.mem_singleton] at hp
  subst hp
  cases hv
  exact ⟨rfl, below0 hw hP hb1⟩
end Go.Proofs.YtljmmkjdlcfkpaaGreatDoor
