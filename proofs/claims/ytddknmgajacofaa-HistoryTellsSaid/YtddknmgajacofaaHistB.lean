/-
  History: the values of keys, sorted by their keys; a transaction's works run one behind the other (plain Lean, no program in sight).
-/
namespace Go.Proofs.Ytddknmgajacofaa

abbrev Ky := List UInt8
abbrev Vl := Bool × ByteArray
def noV : Vl := (false, ⟨#[]⟩)
theorem ky_irrefl (a : Ky) : ¬ a < a := List.lt_irrefl a
theorem ky_trans {a b c : Ky} (h : a < b) (h' : b < c) : a < c := List.lt_trans h h'
theorem ky_tri {a b : Ky} (h : ¬ a < b) (hne : a ≠ b) : b < a := by
  rcases List.le_total a b with h1 | h1
  · rcases List.le_iff_lt_or_eq.1 h1 with h2 | h2
    · exact absurd h2 h
    · exact absurd h2 hne
  · rcases List.le_iff_lt_or_eq.1 h1 with h2 | h2
    · exact h2
    · exact absurd h2.symm hne

def valueOf : List (Ky × Vl) → Ky → Vl
  | [], _ => noV
  | (k', v) :: r, k => if k' = k then v else valueOf r k
def setV : List (Ky × Vl) → Ky → Vl → List (Ky × Vl)
  | [], k, v => [(k, v)]
  | (k', v') :: r, k, v => if k' < k then (k', v') :: setV r k v else if k' = k then (k, v) :: r else (k, v) :: (k', v') :: r
def Rising (l : List (Ky × Vl)) : Prop := l.Pairwise fun a b => a.1 < b.1

theorem valueOf_set (l : List (Ky × Vl)) (k : Ky) (v : Vl) (j : Ky) : valueOf (setV l k v) j = if k = j then v else valueOf l j := by
  induction l with
  | nil => rfl
  | cons p r ih =>
    obtain ⟨k', v'⟩ := p
    simp only [setV]
    by_cases h1 : k' < k
    · rw [if_pos h1]
      simp only [valueOf, ih]
      by_cases h2 : k' = j
      · rw [if_pos h2, if_neg (fun e => ky_irrefl j (by rw [h2, e] at h1; exact h1)), if_pos h2]
      · rw [if_neg h2, if_neg h2]
    · rw [if_neg h1]
      by_cases h2 : k' = k
      · subst h2
        rw [if_pos rfl]
        simp only [valueOf]
        by_cases h3 : k' = j
        · rw [if_pos h3, if_pos h3]
        · rw [if_neg h3, if_neg h3, if_neg h3]
      · rw [if_neg h2]
        simp only [valueOf]
theorem mem_set (l : List (Ky × Vl)) (k : Ky) (v : Vl) (j : Ky) : j ∈ (setV l k v).map (·.1) ↔ j = k ∨ j ∈ l.map (·.1) := by
  induction l with
  | nil => simp [setV]
  | cons p r ih =>
    obtain ⟨k', v'⟩ := p
    simp only [setV]
    by_cases h1 : k' < k
    · rw [if_pos h1]
      simp only [List.map_cons, List.mem_cons, ih]
      constructor
      · rintro (h | h | h)
        · exact .inr (.inl h)
        · exact .inl h
        · exact .inr (.inr h)
      · rintro (h | h | h)
        · exact .inr (.inl h)
        · exact .inl h
        · exact .inr (.inr h)
    · rw [if_neg h1]
      by_cases h2 : k' = k
      · subst h2
        rw [if_pos rfl]
        simp
      · rw [if_neg h2]
        simp
theorem set_rising {l : List (Ky × Vl)} (h : Rising l) (k : Ky) (v : Vl) : Rising (setV l k v) := by
  induction l with
  | nil => simp [setV, Rising]
  | cons p r ih =>
    obtain ⟨k', v'⟩ := p
    obtain ⟨h1, h2⟩ := List.pairwise_cons.1 h
    simp only [setV]
    by_cases h3 : k' < k
    · rw [if_pos h3]
      refine List.pairwise_cons.2 ⟨fun q hq => ?_, ih h2⟩
      have hq' : q.1 ∈ (setV r k v).map (·.1) := List.mem_map_of_mem hq
      rcases (mem_set r k v q.1).1 hq' with e | e
      · rw [e]; exact h3
      · obtain ⟨q', hq1, hq2⟩ := List.mem_map.1 e
        rw [← hq2]
        exact h1 q' hq1
    · rw [if_neg h3]
      by_cases h4 : k' = k
      · subst h4
        rw [if_pos rfl]
        exact List.pairwise_cons.2 ⟨h1, h2⟩
      · rw [if_neg h4]
        have h5 := ky_tri h3 h4
        refine List.pairwise_cons.2 ⟨fun q hq => ?_, h⟩
        rcases List.mem_cons.1 hq with rfl | hq
        · exact h5
        · exact ky_trans h5 (h1 q hq)

/-- Two rising lists of keys with the same members are one. -/
theorem rising_unique : ∀ {a b : List Ky}, a.Pairwise (· < ·) → b.Pairwise (· < ·) → (∀ k, k ∈ a ↔ k ∈ b) → a = b
  | [], [], _, _, _ => rfl
  | [], y :: b, _, _, h => absurd ((h y).2 (List.mem_cons_self ..)) (by simp)
  | x :: a, [], _, _, h => absurd ((h x).1 (List.mem_cons_self ..)) (by simp)
  | x :: a, y :: b, ha, hb, h => by
    obtain ⟨ha1, ha2⟩ := List.pairwise_cons.1 ha
    obtain ⟨hb1, hb2⟩ := List.pairwise_cons.1 hb
    have e : x = y := by
      rcases List.mem_cons.1 ((h x).1 (List.mem_cons_self ..)) with e | e
      · exact e
      · rcases List.mem_cons.1 ((h y).2 (List.mem_cons_self ..)) with e' | e'
        · exact e'.symm
        · exact absurd (ky_trans (ha1 y e') (hb1 x e)) (ky_irrefl x)
    subst e
    rw [rising_unique ha2 hb2 fun k => ?_]
    constructor
    · intro hk
      rcases List.mem_cons.1 ((h k).1 (List.mem_cons_of_mem _ hk)) with e | e
      · subst e; exact absurd (ha1 k hk) (ky_irrefl k)
      · exact e
    · intro hk
      rcases List.mem_cons.1 ((h k).2 (List.mem_cons_of_mem _ hk)) with e | e
      · subst e; exact absurd (hb1 k hk) (ky_irrefl k)
      · exact e
theorem rising_of_sorted {a : List Ky} (h : a.Pairwise (· ≤ ·)) (hn : a.Nodup) : a.Pairwise (· < ·) := by
  induction a with
  | nil => exact .nil
  | cons x a ih =>
    obtain ⟨h1, h2⟩ := List.pairwise_cons.1 h
    obtain ⟨h3, h4⟩ := List.nodup_cons.1 hn
    refine List.pairwise_cons.2 ⟨fun y hy => ?_, ih h2 h4⟩
    rcases List.le_iff_lt_or_eq.1 (h1 y hy) with e | e
    · exact e
    · subst e; exact absurd hy h3
/-- The sorted keys of a map are the keys of the document's cells. -/
theorem sorted_keys {ks : List Ky} {l : List (Ky × Vl)} (hn : ks.Nodup) (hl : Rising l) (h : ∀ k, k ∈ ks ↔ k ∈ l.map (·.1)) : ks.mergeSort (fun x y => decide (x ≤ y)) = l.map (·.1) := by
  have hp := List.mergeSort_perm ks (fun x y => decide (x ≤ y))
  refine rising_unique (rising_of_sorted ?_ (hp.nodup_iff.2 hn)) ?_ fun k => ?_
  · have := List.pairwise_mergeSort (le := fun x y : Ky => decide (x ≤ y)) (fun a b c h1 h2 => ?_) (fun a b => ?_) ks
    · exact this.imp fun h => of_decide_eq_true h
    · exact decide_eq_true (List.le_trans (of_decide_eq_true h1) (of_decide_eq_true h2))
    · rcases List.le_total a b with h | h
      · simp [h]
      · simp [h]
  · exact List.pairwise_map.2 hl
  · rw [hp.mem_iff]
    exact h k
end Go.Proofs.Ytddknmgajacofaa
