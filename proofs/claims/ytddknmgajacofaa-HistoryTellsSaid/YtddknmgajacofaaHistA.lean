/-
  History: who is committed, and which reads and writes count: the program's way and the document's are one (plain Lean, no program in sight).
-/
namespace Go.Proofs.Ytddknmgajacofaa

/-- An event. -/
structure EvD where
  kind : Int
  tx : Int
  key : ByteArray
  has : Bool
  data : ByteArray

section
variable (l : List EvD)
/-- Is event i of this transaction, and of this kind? -/
def isAt (tx kind : Int) (i : Nat) : Bool := match l[i]? with
  | some e => decide (e.tx = tx) && decide (e.kind = kind)
  | none => false
/-- The program's tables behind so many events: where a transaction is committed; who has aborted. -/
def abN : Nat → Int → Bool
  | 0, _ => false
  | n + 1, t => isAt l t 4 n || abN n t
def atN : Nat → Int → Option Nat
  | 0, _ => none
  | n + 1, t => if isAt l t 3 n && (atN n t).isNone && !abN l n t then some n else atN n t
/-- The document's: the first event of a kind; as many as there are: none. -/
def firstN : Nat → Nat → Int → Int → Nat
  | 0, i, _, _ => i
  | n + 1, i, t, k => if isAt l t k i then i else firstN n (i + 1) t k
def firstE (t k : Int) : Nat := firstN l l.length 0 t k
end

theorem abN_iff (l : List EvD) (n : Nat) (t : Int) : abN l n t = true ↔ ∃ j, j < n ∧ isAt l t 4 j = true := by
  induction n with
  | zero => simp [abN]
  | succ n ih =>
    simp only [abN, Bool.or_eq_true, ih]
    constructor
    · rintro (h | ⟨j, hj, h⟩)
      · exact ⟨n, by omega, h⟩
      · exact ⟨j, by omega, h⟩
    · rintro ⟨j, hj, h⟩
      rcases (by omega : j = n ∨ j < n) with rfl | hj
      · exact .inl h
      · exact .inr ⟨j, hj, h⟩
theorem atN_iff (l : List EvD) (n : Nat) (t : Int) (i : Nat) : atN l n t = some i ↔ i < n ∧ isAt l t 3 i = true ∧ (∀ j, j < i → isAt l t 3 j = false) ∧ (∀ j, j < i → isAt l t 4 j = false) := by
  induction n generalizing i with
  | zero => simp [atN]
  | succ n ih =>
    simp only [atN]
    by_cases hc : (isAt l t 3 n && (atN l n t).isNone && !abN l n t) = true
    · rw [if_pos hc]
      simp only [Bool.and_eq_true, Bool.not_eq_true', Option.isNone_iff_eq_none] at hc
      obtain ⟨⟨h1, h2⟩, h3⟩ := hc
      have hab : ∀ j, j < n → isAt l t 4 j = false := fun j hj => by
        cases h : isAt l t 4 j with
        | false => rfl
        | true => rw [(abN_iff l n t).2 ⟨j, hj, h⟩] at h3; cases h3
      have hno : ∀ j, j < n → isAt l t 3 j = false := by
        intro j
        induction j using Nat.strongRecOn with
        | _ j ihj =>
          intro hj
          cases h : isAt l t 3 j with
          | false => rfl
          | true =>
            have := (ih j).2 ⟨hj, h, fun k hk => ihj k hk (by omega), fun k hk => hab k (by omega)⟩
            rw [h2] at this; cases this
      constructor
      · rintro ⟨rfl⟩
        exact ⟨by omega, h1, hno, hab⟩
      · rintro ⟨hi, h4, h5, _⟩
        rcases (by omega : i = n ∨ i < n) with rfl | hlt
        · rfl
        · rw [hno i hlt] at h4; cases h4
    · rw [if_neg hc, ih]
      constructor
      · rintro ⟨h1, h2⟩
        exact ⟨by omega, h2⟩
      · rintro ⟨hi, h2, h3, h4⟩
        rcases (by omega : i = n ∨ i < n) with rfl | hlt
        · exfalso
          apply hc
          have e1 : atN l i t = none := by
            cases h : atN l i t with
            | none => rfl
            | some j =>
              obtain ⟨hj, h5, _⟩ := (ih j).1 h
              rw [h3 j hj] at h5; cases h5
          have e2 : abN l i t = false := by
            cases h : abN l i t with
            | false => rfl
            | true =>
              obtain ⟨j, hj, h5⟩ := (abN_iff l i t).1 h
              rw [h4 j hj] at h5; cases h5
          simp [h2, e1, e2]
        · exact ⟨hlt, h2, h3, h4⟩
theorem firstN_spec (l : List EvD) (t k : Int) : ∀ n i, (∀ j, i ≤ j → j < firstN l n i t k → isAt l t k j = false) ∧ i ≤ firstN l n i t k ∧ firstN l n i t k ≤ i + n ∧ (firstN l n i t k < i + n → isAt l t k (firstN l n i t k) = true) := by
  intro n
  induction n with
  | zero => intro i; simp only [firstN]; exact ⟨fun j h1 h2 => by omega, by omega, by omega, fun h => by omega⟩
  | succ n ih =>
    intro i
    simp only [firstN]
    by_cases h : isAt l t k i = true
    · rw [if_pos h]
      exact ⟨fun j h1 h2 => by omega, by omega, by omega, fun _ => h⟩
    · rw [if_neg h]
      obtain ⟨a, b, c, d⟩ := ih (i + 1)
      refine ⟨fun j h1 h2 => ?_, by omega, by omega, fun hh => d (by omega)⟩
      rcases (by omega : j = i ∨ i + 1 ≤ j) with rfl | hj
      · simpa using h
      · exact a j hj h2
theorem isAt_lt {l : List EvD} {t k : Int} {i : Nat} (h : isAt l t k i = true) : i < l.length := by
  unfold isAt at h
  split at h
  · rename_i e he; exact (List.getElem?_eq_some_iff.1 he).1
  · cases h
/-- The program's place of a transaction's commit is the document's. -/
theorem atN_first (l : List EvD) (t : Int) : atN l l.length t = if firstE l t 3 < firstE l t 4 then some (firstE l t 3) else none := by
  obtain ⟨a1, _, c1, d1⟩ := firstN_spec l t 3 l.length 0
  obtain ⟨a2, _, c2, d2⟩ := firstN_spec l t 4 l.length 0
  show atN l l.length t = if firstN l l.length 0 t 3 < firstN l l.length 0 t 4 then some (firstN l l.length 0 t 3) else none
  generalize firstN l l.length 0 t 3 = p at *
  generalize firstN l l.length 0 t 4 = q at *
  by_cases h : p < q
  · rw [if_pos h]
    exact (atN_iff l _ t p).2 ⟨by omega, d1 (by omega), fun j hj => a1 j (by omega) hj, fun j hj => a2 j (by omega) (by omega)⟩
  · rw [if_neg h]
    cases hh : atN l l.length t with
    | none => rfl
    | some i =>
      exfalso
      obtain ⟨hi, h2, h3, h4⟩ := (atN_iff l _ t i).1 hh
      have hq : q ≤ p := by omega
      have hip : p ≤ i := by
        rcases Nat.lt_or_ge i p with h5 | h5
        · rw [a1 i (by omega) h5] at h2; cases h2
        · exact h5
      have h6 := h4 q
      rcases Nat.lt_or_ge q i with h5 | h5
      · rw [d2 (by omega)] at h6; cases h6 h5
      · have : p = i := by omega
        have : q = i := by omega
        subst this
        have e3 : isAt l t 4 q = true := d2 (by omega)
        unfold isAt at h2 e3
        split at h2
        · rename_i e he
          simp only [he, Bool.and_eq_true, decide_eq_true_eq] at h2 e3
          omega
        · cases h2
end Go.Proofs.Ytddknmgajacofaa
