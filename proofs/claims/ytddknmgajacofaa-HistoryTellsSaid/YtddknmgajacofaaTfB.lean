/-
  The order by counting who is waited for: the plain law.
-/
import Derived.Test.YtddknmgajacofaaTeA
namespace Go.Proofs.Ytddknmgajacofaa

def wtO (E : Ed) (O : List Int) (t : Int) : Nat := E.countP fun p => decide (p.1 = t ∧ p.2 ∉ O)
def bkO (E : Ed) (x : Int) : List Int := (E.filter fun p => decide (p.2 = x)).map (·.1)
theorem wtO_zero (E : Ed) (O : List Int) (t : Int) : wtO E O t = 0 ↔ ∀ y, (t, y) ∈ E → y ∈ O := by
  unfold wtO
  rw [List.countP_eq_zero]
  constructor
  · intro h y hy
    have := h (t, y) hy
    simpa using this
  · rintro h ⟨a, y⟩ hp
    simp only [decide_eq_true_eq]
    rintro ⟨rfl, hn⟩
    exact hn (h y hp)
theorem wtO_le (E : Ed) (O : List Int) (t : Int) : wtO E O t ≤ E.length := List.countP_le_length
theorem bkO_len (E : Ed) (x : Int) : (bkO E x).length ≤ E.length := by
  unfold bkO
  rw [List.length_map]
  exact List.length_filter_le _ _
theorem wtO_cons (p : Int × Int) (E : Ed) (O : List Int) (t : Int) : wtO (p :: E) O t = wtO E O t + if p.1 = t ∧ p.2 ∉ O then 1 else 0 := by
  unfold wtO
  rw [List.countP_cons]
  by_cases h : p.1 = t ∧ p.2 ∉ O
  · rw [if_pos h, if_pos (by simpa using h)]
  · rw [if_neg h, if_neg (by simpa using h)]
theorem bkO_cons (p : Int × Int) (E : Ed) (x : Int) : bkO (p :: E) x = if p.2 = x then p.1 :: bkO E x else bkO E x := by
  unfold bkO
  rw [List.filter_cons]
  by_cases h : p.2 = x
  · rw [if_pos h, if_pos (by simpa using h), List.map_cons]
  · rw [if_neg h, if_neg (by simpa using h)]
theorem wtO_out (E : Ed) {O : List Int} {x : Int} (hx : x ∉ O) (t : Int) : wtO E O t = wtO E (O ++ [x]) t + (bkO E x).count t := by
  induction E with
  | nil => rfl
  | cons p E ih =>
    rw [wtO_cons, wtO_cons, bkO_cons, ih]
    by_cases h1 : p.2 = x
    · rw [if_pos h1, List.count_cons]
      by_cases h2 : p.1 = t
      · rw [if_pos ⟨h2, by rw [h1]; exact hx⟩, if_neg (by rw [h1]; simp), if_pos (by simpa using h2)]
        omega
      · rw [if_neg (fun h => h2 h.1), if_neg (fun h => h2 h.1), if_neg (by simpa using h2)]
        omega
    · rw [if_neg h1]
      by_cases h2 : p.1 = t ∧ p.2 ∉ O
      · rw [if_pos h2, if_pos ⟨h2.1, by simp [h2.2, h1]⟩]
        omega
      · rw [if_neg h2, if_neg (fun h => h2 ⟨h.1, fun h3 => h.2 (by simp [h3])⟩)]
        omega
/-- What stands while the order is made. -/
structure SerI (E : Ed) (com O L : List Int) : Prop where
  ser : Ser E com O
  sorted : L.Pairwise (· ≤ ·)
  nodup : L.Nodup
  mem : ∀ x, x ∈ L ↔ x ∈ com ∧ x ∉ O
  len : L.length + O.length = com.length
theorem SerI.start {E : Ed} {com : List Int} (hn : com.Nodup) : SerI E com [] (com.mergeSort fun x y => decide (x ≤ y)) := by
  have hp := List.mergeSort_perm com (fun x y => decide (x ≤ y))
  have h1 := List.pairwise_mergeSort (le := fun x y : Int => decide (x ≤ y)) (fun a b c h1 h2 => by simp at *; omega) (fun a b => by simp; omega) com
  exact ⟨.nil, h1.imp fun h => by simpa using h, hp.nodup_iff.2 hn, fun x => by rw [hp.mem_iff]; simp, by simp⟩
theorem first_of (p : Int → Prop) : ∀ (L : List Int), (∃ x ∈ L, p x) → ∃ (i : Nat) (x : Int), L[i]? = some x ∧ p x ∧ ∀ (j : Nat) (y : Int), j < i → L[j]? = some y → ¬ p y
  | [], h => by obtain ⟨x, hx, _⟩ := h; cases hx
  | a :: L, h => by
    by_cases ha : p a
    · exact ⟨0, a, rfl, ha, fun j y hj => absurd hj (by omega)⟩
    · obtain ⟨x, hx, hpx⟩ := h
      have hxL : x ∈ L := by
        rcases List.mem_cons.1 hx with rfl | h
        · exact absurd hpx ha
        · exact h
      obtain ⟨i, z, h1, h2, h3⟩ := first_of p L ⟨x, hxL, hpx⟩
      refine ⟨i + 1, z, by simpa using h1, h2, fun j y hj hy => ?_⟩
      cases j with
      | zero => simp at hy; subst hy; exact ha
      | succ j => exact h3 j y (by omega) (by simpa using hy)
theorem SerI.first {E : Ed} {com O L : List Int} (h : SerI E com O L) (hE : ¬ Cyc E) (hall : ∀ x y, (x, y) ∈ E → y ∈ com) (hn : com.Nodup) (hl : 0 < L.length) : ∃ (i : Nat) (x : Int), L[i]? = some x ∧ wtO E O x = 0 ∧ ∀ (j : Nat) (y : Int), j < i → L[j]? = some y → wtO E O y ≠ 0 := by
  obtain ⟨x, hx, hxo, hr⟩ := ser_goes hE hall hn (out := O) (by have := h.len; omega)
  exact first_of (fun x => wtO E O x = 0) L ⟨x, (h.mem x).2 ⟨hx, hxo⟩, (wtO_zero E O x).2 hr⟩
theorem SerI.next {E : Ed} {com O L : List Int} (h : SerI E com O L) {i : Nat} {x : Int} (hx : L[i]? = some x) (h0 : wtO E O x = 0) (hf : ∀ (j : Nat) (y : Int), j < i → L[j]? = some y → wtO E O y ≠ 0) : SerI E com (O ++ [x]) (L.take i ++ L.drop (i + 1)) ∧ x ∉ O := by
  have hil := (List.getElem?_eq_some_iff.1 hx).1
  have hxv : L[i] = x := (List.getElem?_eq_some_iff.1 hx).2
  have hxm := (h.mem x).1 (List.mem_of_getElem? hx)
  have hsub : (L.take i ++ L.drop (i + 1)).Sublist L := by
    have h9 : L = L.take i ++ L.drop i := (List.take_append_drop i L).symm
    conv => rhs; rw [h9]
    rw [List.drop_eq_getElem_cons hil]
    exact List.Sublist.append (List.Sublist.refl _) (List.sublist_cons_self _ _)
  have hL : L = L.take i ++ x :: L.drop (i + 1) := by
    rw [← hxv, ← List.drop_eq_getElem_cons hil, List.take_append_drop]
  have hnd := h.nodup
  rw [hL, List.nodup_append] at hnd
  obtain ⟨n1, n2, n3⟩ := hnd
  rw [List.nodup_cons] at n2
  refine ⟨⟨.snoc h.ser ⟨hxm.1, hxm.2, (wtO_zero E O x).1 h0, fun z hz hzo hzr => ?_⟩, h.sorted.sublist hsub, h.nodup.sublist hsub, fun y => ?_, ?_⟩, hxm.2⟩
  · obtain ⟨k, hk⟩ := List.mem_iff_getElem?.1 ((h.mem z).2 ⟨hz, hzo⟩)
    have hki : ¬ k < i := fun hlt => hf k z hlt hk ((wtO_zero E O z).2 hzr)
    have hkl := (List.getElem?_eq_some_iff.1 hk).1
    have hkv : L[k] = z := (List.getElem?_eq_some_iff.1 hk).2
    rcases Nat.lt_or_eq_of_le (Nat.le_of_not_lt hki) with hlt | rfl
    · have := List.pairwise_iff_getElem.1 h.sorted i k hil hkl hlt
      rw [hxv, hkv] at this
      exact this
    · rw [hxv] at hkv; subst hkv; exact Int.le_refl _
  · have hm := h.mem y
    rw [hL] at hm
    constructor
    · intro hy
      have hyL : y ∈ L.take i ++ x :: L.drop (i + 1) := by
        rcases List.mem_append.1 hy with h1 | h1
        · exact List.mem_append_left _ h1
        · exact List.mem_append_right _ (List.mem_cons_of_mem _ h1)
      have := hm.1 hyL
      refine ⟨this.1, fun hyo => ?_⟩
      rcases List.mem_append.1 hyo with h1 | h1
      · exact this.2 h1
      · rw [List.mem_singleton] at h1
        subst h1
        rcases List.mem_append.1 hy with h2 | h2
        · exact n3 y h2 y (List.mem_cons_self ..) rfl
        · exact n2.1 h2
    · rintro ⟨h1, h2⟩
      rw [List.mem_append, List.mem_singleton] at h2
      have := hm.2 ⟨h1, fun h => h2 (.inl h)⟩
      rcases List.mem_append.1 this with h3 | h3
      · exact List.mem_append_left _ h3
      · rcases List.mem_cons.1 h3 with rfl | h3
        · exact absurd (.inr rfl) h2
        · exact List.mem_append_right _ h3
  · have := h.len
    simp
    omega
/-- The counts while those behind x are told. -/
def wtJ (E : Ed) (O : List Int) (x : Int) (j : Nat) (t : Int) : Int := (wtO E O t : Int) - ((((bkO E x).take j).count t : Nat) : Int)
theorem wtJ_succ {E : Ed} {O : List Int} {x y : Int} {j : Nat} (h : (bkO E x)[j]? = some y) (t : Int) : wtJ E O x (j + 1) t = if t = y then wtJ E O x j y - 1 else wtJ E O x j t := by
  unfold wtJ
  rw [List.take_add_one, h, Option.toList_some, List.count_append]
  by_cases e : t = y
  · subst e; simp; omega
  · have : ¬ y = t := fun h => e h.symm
    simp [e, this]
theorem wtJ_zero (E : Ed) (O : List Int) (x t : Int) : wtJ E O x 0 t = wtO E O t := by simp [wtJ]
theorem wtJ_end (E : Ed) {O : List Int} {x : Int} (hx : x ∉ O) (t : Int) : wtJ E O x (bkO E x).length t = wtO E (O ++ [x]) t := by
  unfold wtJ
  rw [List.take_length, wtO_out E hx t]
  omega
theorem wtJ_range (E : Ed) (O : List Int) (x : Int) (j : Nat) (t : Int) (hl : E.length ≤ 3600) : -3600 ≤ wtJ E O x j t ∧ wtJ E O x j t ≤ 3600 := by
  unfold wtJ
  have h1 := wtO_le E O t
  have h2 : ((bkO E x).take j).count t ≤ ((bkO E x).take j).length := List.count_le_length
  have h3 := bkO_len E x
  rw [List.length_take] at h2
  omega
end Go.Proofs.Ytddknmgajacofaa
