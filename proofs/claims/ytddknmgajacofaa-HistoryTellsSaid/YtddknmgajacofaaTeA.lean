/-
  Graphs of numbered pairs: who is come to, rings, the order; sorted pairs (plain Lean, no program in sight).
-/
namespace Go.Proofs.Ytddknmgajacofaa

abbrev Ed := List (Int × Int)
inductive Rch (E : Ed) : Int → Int → Prop
  | one {a b : Int} : (a, b) ∈ E → Rch E a b
  | snoc {a b c : Int} : Rch E a b → (b, c) ∈ E → Rch E a c
/-- Is there a ring? -/
def Cyc (E : Ed) : Prop := ∃ n, Rch E n n
section
variable {E : Ed} {a b c : Int}
theorem Rch.trans (h : Rch E a b) (h' : Rch E b c) : Rch E a c := by
  induction h' with
  | one e => exact .snoc h e
  | snoc _ e ih => exact .snoc ih e
theorem Rch.first (h : Rch E a b) : ∃ d, (a, d) ∈ E ∧ (d = b ∨ Rch E d b) := by
  induction h with
  | one e => exact ⟨_, e, .inl rfl⟩
  | snoc _ e ih =>
    obtain ⟨d, h1, h2⟩ := ih
    refine ⟨d, h1, .inr ?_⟩
    rcases h2 with rfl | h2
    · exact .one e
    · exact .snoc h2 e
theorem Rch.last (h : Rch E a b) : ∃ d, (d, b) ∈ E := by
  cases h with
  | one e => exact ⟨_, e⟩
  | snoc _ e => exact ⟨_, e⟩
end
theorem countP_lt {p q : Int → Bool} {X : List Int} (h : ∀ x, p x = true → q x = true) {a : Int} (ha : a ∈ X) (hq : q a = true) (hp : p a = false) : X.countP p < X.countP q := by
  induction X with
  | nil => cases ha
  | cons x X ih =>
    have hle : X.countP p ≤ X.countP q := List.countP_mono_left fun x _ => h x
    rw [List.countP_cons, List.countP_cons]
    rcases List.mem_cons.1 ha with rfl | ha
    · rw [hq, hp]; simp; omega
    · have := ih ha
      cases hpx : p x with
      | false => simp; omega
      | true => rw [h x hpx]; simp; omega
/-- Where there is no ring, one of some numbers has none of them ahead of it. -/
theorem exists_ready {E : Ed} (hE : ¬ Cyc E) (X : List Int) (hX : X ≠ []) : ∃ x ∈ X, ∀ y, (x, y) ∈ E → y ∉ X := by
  classical
  by_cases h : ∃ x ∈ X, ∀ y, (x, y) ∈ E → y ∉ X
  · exact h
  · exfalso
    have hs : ∀ x ∈ X, ∃ y ∈ X, (x, y) ∈ E := fun x hx => by
      refine Classical.byContradiction fun hn => h ⟨x, hx, fun y hy hyX => hn ⟨y, hyX, hy⟩⟩
    have key : ∀ n x, x ∈ X → X.countP (fun y => decide (Rch E x y)) = n → False := by
      intro n
      induction n using Nat.strongRecOn with
      | _ n ih =>
        intro x hx hn
        obtain ⟨y, hy, he⟩ := hs x hx
        refine ih _ ?_ y hy rfl
        rw [← hn]
        exact countP_lt (fun z hz => decide_eq_true (Rch.trans (.one he) (of_decide_eq_true hz))) hy (decide_eq_true (.one he)) (decide_eq_false fun hc => hE ⟨y, hc⟩)
    obtain ⟨x, X', rfl⟩ := List.exists_cons_of_ne_nil hX
    exact key _ x (List.mem_cons_self ..) rfl

/-! ### the order: whoever is ready, the least one first -/
structure Best (E : Ed) (all out : List Int) (x : Int) : Prop where
  mem : x ∈ all
  new : x ∉ out
  ready : ∀ y, (x, y) ∈ E → y ∈ out
  least : ∀ z ∈ all, z ∉ out → (∀ y, (z, y) ∈ E → y ∈ out) → x ≤ z
inductive Ser (E : Ed) (all : List Int) : List Int → Prop
  | nil : Ser E all []
  | snoc {out : List Int} {x : Int} : Ser E all out → Best E all out x → Ser E all (out ++ [x])
section
variable {E : Ed} {all out : List Int} {x y : Int}
theorem Best.unique (h : Best E all out x) (h' : Best E all out y) : x = y :=
  Int.le_antisymm (h.least y h'.mem h'.new h'.ready) (h'.least x h.mem h.new h.ready)
theorem Ser.unique {a : List Int} (h : Ser E all a) : ∀ {b : List Int}, Ser E all b → a.length = b.length → a = b := by
  induction h with
  | nil => intro b _ hl; exact (List.eq_nil_of_length_eq_zero (by simpa using hl.symm)).symm
  | snoc h1 h2 ih =>
    intro b hb hl
    cases hb with
    | nil => simp at hl
    | snoc h3 h4 =>
      have := ih h3 (by simpa using hl)
      subst this
      rw [h2.unique h4]
theorem Ser.nodup (h : Ser E all out) : out.Nodup := by
  induction h with
  | nil => exact List.nodup_nil
  | snoc h1 h2 ih =>
    rw [List.nodup_append]
    exact ⟨ih, by simp, fun a ha b hb e => by
      rw [List.mem_singleton] at hb
      subst hb
      exact h2.new (e ▸ ha)⟩
theorem Ser.sub (h : Ser E all out) : ∀ y ∈ out, y ∈ all := by
  induction h with
  | nil => intro y hy; cases hy
  | snoc h1 h2 ih =>
    intro y hy
    rcases List.mem_append.1 hy with hy | hy
    · exact ih y hy
    · rw [List.mem_singleton] at hy; subst hy; exact h2.mem
end
/-- A list without doubles, all of whose members are in another one, is no longer. -/
theorem nodup_le {α : Type} [DecidableEq α] : ∀ {a b : List α}, a.Nodup → (∀ x ∈ a, x ∈ b) → a.length ≤ b.length
  | [], _, _, _ => Nat.zero_le _
  | x :: a, b, hn, h => by
    obtain ⟨h1, h2⟩ := List.nodup_cons.1 hn
    have hx := h x (List.mem_cons_self ..)
    have := nodup_le (b := b.erase x) h2 fun y hy => (List.mem_erase_of_ne (fun (e : y = x) => h1 (e ▸ hy))).2 (h y (List.mem_cons_of_mem _ hy))
    rw [List.length_erase_of_mem hx] at this
    have : 0 < b.length := List.length_pos_of_mem hx
    simp only [List.length_cons]
    omega
/-- As long as not all are out, there is a next one. -/
theorem ser_goes {E : Ed} {all out : List Int} (hE : ¬ Cyc E) (hall : ∀ x y, (x, y) ∈ E → y ∈ all) (hn : all.Nodup) (hl : out.length < all.length) : ∃ x ∈ all, x ∉ out ∧ ∀ y, (x, y) ∈ E → y ∈ out := by
  have hX : (all.filter fun x => decide (x ∉ out)) ≠ [] := by
    intro e
    have := nodup_le (b := out) hn fun x hx => by
      refine Classical.byContradiction fun hno => ?_
      have : x ∈ all.filter fun x => decide (x ∉ out) := List.mem_filter.2 ⟨hx, by simpa using hno⟩
      rw [e] at this; cases this
    omega
  obtain ⟨x, hx, hy⟩ := exists_ready hE _ hX
  obtain ⟨h1, h2⟩ := List.mem_filter.1 hx
  refine ⟨x, h1, by simpa using h2, fun y he => ?_⟩
  have := hy y he
  refine Classical.byContradiction fun hno => this ?_
  exact List.mem_filter.2 ⟨hall x y he, by simpa using hno⟩

/-! ### sorted pairs -/
def ltE (p q : Int × Int) : Prop := p.1 < q.1 ∨ (p.1 = q.1 ∧ p.2 < q.2)
instance (p q : Int × Int) : Decidable (ltE p q) := inferInstanceAs (Decidable (_ ∨ _))
theorem ltE_irrefl (p : Int × Int) : ¬ ltE p p := by unfold ltE; omega
theorem ltE_trans {p q r : Int × Int} (h : ltE p q) (h' : ltE q r) : ltE p r := by unfold ltE at *; omega
theorem ltE_tri {p q : Int × Int} (h : ¬ ltE p q) (hne : p ≠ q) : ltE q p := by
  have : ¬ (p.1 = q.1 ∧ p.2 = q.2) := fun ⟨h1, h2⟩ => hne (Prod.ext h1 h2)
  unfold ltE at *; omega
abbrev SortedE (L : Ed) : Prop := L.Pairwise ltE
theorem sortedE_unique : ∀ {a b : Ed}, SortedE a → SortedE b → (∀ k, k ∈ a ↔ k ∈ b) → a = b
  | [], [], _, _, _ => rfl
  | [], y :: b, _, _, h => absurd ((h y).2 (List.mem_cons_self ..)) (by simp)
  | x :: a, [], _, _, h => absurd ((h x).1 (List.mem_cons_self ..)) (by simp)
  | x :: a, y :: b, ha, hb, h => by
    obtain ⟨ha1, ha2⟩ := List.pairwise_cons.1 ha
    obtain ⟨hb1, hb2⟩ := List.pairwise_cons.1 hb
    have e : x = y := by
      rcases List.mem_cons.1 ((h x).1 (List.mem_cons_self ..)) with e | e
      · exact e
      · rcases List.mem_cons.1 ((h y).2 (List.mem_cons_self ..)) with e' | e'
        · exact e'.symm
        · exact absurd (ltE_trans (ha1 y e') (hb1 x e)) (ltE_irrefl x)
    subst e
    rw [sortedE_unique ha2 hb2 fun k => ?_]
    constructor
    · intro hk
      rcases List.mem_cons.1 ((h k).1 (List.mem_cons_of_mem _ hk)) with e | e
      · subst e; exact absurd (ha1 k hk) (ltE_irrefl k)
      · exact e
    · intro hk
      rcases List.mem_cons.1 ((h k).2 (List.mem_cons_of_mem _ hk)) with e | e
      · subst e; exact absurd (hb1 k hk) (ltE_irrefl k)
      · exact e
theorem sortedE_nodup {L : Ed} (h : SortedE L) : L.Nodup := List.Pairwise.imp (fun {p q} hpq e => by subst e; exact ltE_irrefl _ hpq) h
/-- A pair among others, where it belongs. -/
def addE : Ed → Int × Int → Ed
  | [], p => [p]
  | q :: r, p => if ltE q p then q :: addE r p else if q = p then q :: r else p :: q :: r
theorem mem_addE (L : Ed) (p k : Int × Int) : k ∈ addE L p ↔ k = p ∨ k ∈ L := by
  induction L with
  | nil => simp [addE]
  | cons q r ih =>
    simp only [addE]
    by_cases h1 : ltE q p
    · rw [if_pos h1, List.mem_cons, ih, List.mem_cons]
      constructor
      · rintro (h | h | h)
        · exact .inr (.inl h)
        · exact .inl h
        · exact .inr (.inr h)
      · rintro (h | h | h)
        · exact .inr (.inl h)
        · exact .inl h
        · exact .inr (.inr h)
    · rw [if_neg h1]
      by_cases h2 : q = p
      · subst h2; simp
      · rw [if_neg h2, List.mem_cons]
theorem addE_sorted {L : Ed} (h : SortedE L) (p : Int × Int) : SortedE (addE L p) := by
  induction L with
  | nil => simp [addE, SortedE]
  | cons q r ih =>
    obtain ⟨h1, h2⟩ := List.pairwise_cons.1 h
    simp only [addE]
    by_cases h3 : ltE q p
    · rw [if_pos h3]
      refine List.pairwise_cons.2 ⟨fun k hk => ?_, ih h2⟩
      rcases (mem_addE r p k).1 hk with rfl | hk
      · exact h3
      · exact h1 k hk
    · rw [if_neg h3]
      by_cases h4 : q = p
      · rw [if_pos h4]; exact h
      · rw [if_neg h4]
        have h5 := ltE_tri h3 h4
        refine List.pairwise_cons.2 ⟨fun k hk => ?_, h⟩
        rcases List.mem_cons.1 hk with rfl | hk
        · exact h5
        · exact ltE_trans h5 (h1 k hk)
end Go.Proofs.Ytddknmgajacofaa
