/-
  HistoryFinds: the plain law: where one read that counts has another value, the order does not replay.
-/
import Derived.Test.YtddknmgajacofaaRepO
import Derived.Test.YtddknmgajacofaaHistK
import Derived.Test.YtddknmgajacofaaHistS
namespace Go.Proofs.Ytddknmgajacofaa
open Go Go.RowKit

theorem ordN_mem {l : List EvD} {t : Int} : ∀ {n j : Nat}, atN l n t = some j → t ∈ ordN l n
  | 0, _, h => by cases h
  | n + 1, j, h => by
    simp only [atN] at h
    split at h
    · rename_i hc
      simp only [Bool.and_eq_true, Bool.not_eq_true', Option.isNone_iff_eq_none] at hc
      obtain ⟨⟨h1, h2⟩, h3⟩ := hc
      unfold isAt at h1
      cases he : l[n]? with
      | none => rw [he] at h1; cases h1
      | some e =>
        rw [he] at h1
        simp only [Bool.and_eq_true, decide_eq_true_eq] at h1
        simp only [ordN, he]
        rw [if_pos ⟨h1.2, by rw [h1.1]; exact h2, by rw [h1.1]; exact h3⟩, h1.1]
        simp
    · have := ordN_mem h
      simp only [ordN]
      split
      · split
        · exact List.mem_append_left _ this
        · exact this
      · exact this
/-- The same kinds and transactions, everywhere. -/
def SameKT (l m : List EvD) : Prop := m.length = l.length ∧ ∀ i : Nat, (m[i]?).map (fun e : EvD => (e.kind, e.tx)) = (l[i]?).map fun e : EvD => (e.kind, e.tx)
theorem SameKT.isAt {l m : List EvD} (h : SameKT l m) : isAt m = isAt l := by
  funext t k i
  have := h.2 i
  unfold Go.Proofs.Ytddknmgajacofaa.isAt
  cases h1 : m[i]? with
  | none =>
    cases h2 : l[i]? with
    | none => rfl
    | some y => rw [h1, h2] at this; simp at this
  | some x =>
    cases h2 : l[i]? with
    | none => rw [h1, h2] at this; simp at this
    | some y =>
      rw [h1, h2] at this
      simp only [Option.map_some, Option.some.injEq, Prod.mk.injEq] at this
      simp only [this.1, this.2]
theorem SameKT.firstN {l m : List EvD} (h : SameKT l m) : firstN m = firstN l := by
  funext n i t k
  induction n generalizing i with
  | zero => rfl
  | succ n ih => simp only [Go.Proofs.Ytddknmgajacofaa.firstN, h.isAt, ih]
theorem SameKT.firstE {l m : List EvD} (h : SameKT l m) : firstE m = firstE l := by
  funext t k
  simp only [Go.Proofs.Ytddknmgajacofaa.firstE, h.firstN, h.1]
theorem SameKT.wkOf {l m : List EvD} (h : SameKT l m) (e : EvD) (i : Nat) : wkOf m e i = wkOf l e i := by simp only [Go.Proofs.Ytddknmgajacofaa.wkOf, h.firstE]
theorem wkOf_kt {l : List EvD} {e e' : EvD} (h1 : e'.kind = e.kind) (h2 : e'.tx = e.tx) (i : Nat) : wkOf l e' i = wkOf l e i := by simp only [wkOf, h1, h2]
theorem set_get {l : List EvD} {a i : Nat} {e' : EvD} (ha : a < l.length) : (l.set a e')[i]? = if i = a then some e' else l[i]? := by
  rw [List.getElem?_set]
  by_cases h : a = i
  · subst h; simp [ha]
  · rw [if_neg h, if_neg fun e => h e.symm]
theorem sameKT_set {l : List EvD} {a : Nat} {e e' : EvD} (he : l[a]? = some e) (h1 : e'.kind = e.kind) (h2 : e'.tx = e.tx) : SameKT l (l.set a e') := by
  have ha := (List.getElem?_eq_some_iff.1 he).1
  refine ⟨by simp, fun i => ?_⟩
  rw [set_get ha]
  by_cases h : i = a
  · subst h; rw [if_pos rfl, he]; simp [h1, h2]
  · rw [if_neg h]
section
variable {l : List EvD} {a : Nat} {e e' : EvD} (he : l[a]? = some e) (h1 : e'.kind = e.kind) (h2 : e'.tx = e.tx)
include he h1 h2
theorem txW_other {t : Int} (ht : t ≠ e.tx) (n : Nat) : txW (l.set a e') t n = txW l t n := by
  have ha := (List.getElem?_eq_some_iff.1 he).1
  induction n with
  | zero => rfl
  | succ n ih =>
    simp only [txW, set_get ha]
    by_cases hn : n = a
    · subst hn
      rw [if_pos rfl, he]
      simp only
      rw [if_neg (fun h => ht (h.1.symm.trans h2)), if_neg (fun h => ht h.1.symm), ih]
    · rw [if_neg hn]
      cases l[n]? with
      | none => exact ih
      | some x => simp only [(sameKT_set he h1 h2).wkOf, ih]
theorem txW_before {t : Int} {n : Nat} (hn : n ≤ a) : txW (l.set a e') t n = txW l t n := by
  have ha := (List.getElem?_eq_some_iff.1 he).1
  induction n with
  | zero => rfl
  | succ n ih =>
    simp only [txW, set_get ha]
    rw [if_neg (by omega)]
    cases l[n]? with
    | none => exact ih (by omega)
    | some x => simp only [(sameKT_set he h1 h2).wkOf, ih (by omega)]
/-- The transaction's works: only the one is another. -/
theorem txW_split (hw : wkOf l e a = true) : ∀ {n : Nat}, a < n → ∃ B, txW l e.tx n = txW l e.tx a ++ e :: B ∧ ∃ B', txW (l.set a e') e.tx n = txW l e.tx a ++ e' :: B' := by
  have ha := (List.getElem?_eq_some_iff.1 he).1
  intro n hn
  induction n with
  | zero => omega
  | succ n ih =>
    rcases (by omega : a < n ∨ a = n) with h | rfl
    · obtain ⟨B, hB, B', hB'⟩ := ih h
      have key : ∀ (m : List EvD) (b : EvD) (C : List EvD), txW m e.tx n = txW l e.tx a ++ b :: C → ∃ C', txW m e.tx (n + 1) = txW l e.tx a ++ b :: C' := fun m b C hC => by
        cases hx : m[n]? with
        | none => exact ⟨C, by simp only [txW, hx]; exact hC⟩
        | some x =>
          by_cases hc : x.tx = e.tx ∧ wkOf m x n = true
          · exact ⟨C ++ [x], by rw [txW_hit hx hc.1 hc.2, hC]; simp⟩
          · exact ⟨C, by rw [txW_miss hx hc, hC]⟩
      obtain ⟨C, hC⟩ := key l e B hB
      obtain ⟨C', hC'⟩ := key _ e' B' hB'
      exact ⟨C, hC, C', hC'⟩
    · refine ⟨[], by rw [txW_hit he rfl hw], [], ?_⟩
      have hx : (l.set a e')[a]? = some e' := by rw [set_get ha, if_pos rfl]
      rw [txW_hit hx h2 (by rw [(sameKT_set he h1 h2).wkOf, wkOf_kt h1 h2]; exact hw), txW_before he h1 h2 (Nat.le_refl _)]
theorem runL_other (hk : e.kind = 1) (hky : e'.ky = e.ky) (hv : e'.vl ≠ e.vl) (hw : wkOf l e a = true) {n : Nat} (hn : a < n) {vals v' : List (Ky × Vl)} (h : runL (txW l e.tx n) vals = some v') : runL (txW (l.set a e') e.tx n) vals = none := by
  obtain ⟨B, hB, B', hB'⟩ := txW_split he h1 h2 hw hn
  rw [hB, runL_append] at h
  rw [hB', runL_append]
  cases h3 : runL (txW l e.tx a) vals with
  | none => rfl
  | some v1 =>
    rw [h3] at h
    simp only [Option.bind_some, runL] at h ⊢
    cases h4 : runE v1 e with
    | none => rw [h4] at h; cases h
    | some v2 =>
      have h5 : valueOf v1 e.ky = e.vl := by
        unfold runE at h4
        rw [if_neg (by omega)] at h4
        split at h4
        · assumption
        · cases h4
      rw [runE_wrong (by omega) (by rw [hky, h5]; exact fun x => hv x.symm)]
      rfl
theorem stN_other {o : List Int} {k : Nat} (hno : e.tx ∉ o.take k) : stN (l.set a e') o k = stN l o k := by
  induction k with
  | zero => rfl
  | succ k ih =>
    have hno' : e.tx ∉ o.take k := fun h => hno (by rw [List.take_add_one]; exact List.mem_append_left _ h)
    simp only [stN, ih hno']
    cases stN l o k with
    | none => rfl
    | some vals =>
      simp only [Option.bind_some]
      cases ho : o[k]? with
      | none => rfl
      | some t =>
        have ht : t ≠ e.tx := fun x => hno (by rw [List.take_add_one, ho, x]; simp)
        simp only [txW_other he h1 h2 ht, List.length_set]
end
/-- Where one read that counts has another value, the same order does not replay. -/
theorem finds {l : List EvD} {a : Nat} {e e' : EvD} (he : l[a]? = some e) (h1 : e'.kind = e.kind) (h2 : e'.tx = e.tx) (hk : e.kind = 1) (hky : e'.ky = e.ky) (hv : e'.vl ≠ e.vl) (hw : wkOf l e a = true) {o : List Int} (ho : e.tx ∈ o) {vals : List (Ky × Vl)} (h : stN l o o.length = some vals) :
    stN (l.set a e') o o.length = none := by
  have ha := (List.getElem?_eq_some_iff.1 he).1
  obtain ⟨k, hk1, hk2⟩ : ∃ k, o[k]? = some e.tx ∧ e.tx ∉ o.take k := by
    clear h
    induction o with
    | nil => cases ho
    | cons t o ih =>
      by_cases ht : t = e.tx
      · exact ⟨0, by simp [ht], by simp⟩
      · obtain ⟨k, h3, h4⟩ := ih ((List.mem_cons.1 ho).resolve_left fun x => ht x.symm)
        exact ⟨k + 1, by simpa using h3, by simp only [List.take_succ_cons, List.mem_cons, not_or]; exact ⟨fun x => ht x.symm, h4⟩⟩
  have hlt := (List.getElem?_eq_some_iff.1 hk1).1
  refine stN_none (k := k + 1) ?_ hlt
  have hsome : ∃ v1, stN l o (k + 1) = some v1 := by
    cases hs : stN l o (k + 1) with
    | none => rw [stN_none hs hlt] at h; cases h
    | some v1 => exact ⟨v1, rfl⟩
  obtain ⟨v1, hv1⟩ := hsome
  cases hs : stN l o k with
  | none => simp only [stN, hs] at hv1; cases hv1
  | some v0 =>
    rw [stN_new hs hk1 hk2] at hv1
    rw [stN_new (by rw [stN_other he h1 h2 hk2]; exact hs) hk1 hk2, List.length_set]
    exact runL_other he h1 h2 hk hky hv hw ha hv1
end Go.Proofs.Ytddknmgajacofaa
