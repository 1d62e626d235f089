/-
  History: the document's Replay.
-/
import Derived.Test.YtddknmgajacofaaHistG
import Derived.Test.YtddknmgajacofaaHistI
namespace Go.Proofs.Ytddknmgajacofaa
open Go Go.RowKit

/-- What is there behind the first k transactions of the order. -/
def stN (l : List EvD) (o : List Int) : Nat → Option (List (Ky × Vl))
  | 0 => some []
  | k + 1 => (stN l o k).bind fun vals => match o[k]? with
    | some t => if t ∈ o.take k then some vals else runL (txW l t l.length) vals
    | none => some vals
theorem stN_none {l : List EvD} {o : List Int} {k m : Nat} (h : stN l o k = none) (hm : k ≤ m) : stN l o m = none := by
  induction m with
  | zero => rw [show k = 0 by omega] at h; exact h
  | succ m ih =>
    rcases (by omega : k ≤ m ∨ k = m + 1) with h1 | rfl
    · simp only [stN, ih h1]; rfl
    · exact h
theorem stN_seen {l : List EvD} {o : List Int} {k : Nat} {t : Int} {vals : List (Ky × Vl)} (h : stN l o k = some vals) (ht : o[k]? = some t) (hi : t ∈ o.take k) : stN l o (k + 1) = some vals := by simp [stN, h, ht, hi]
theorem stN_new {l : List EvD} {o : List Int} {k : Nat} {t : Int} {vals : List (Ky × Vl)} (h : stN l o k = some vals) (ht : o[k]? = some t) (hi : ¬ t ∈ o.take k) : stN l o (k + 1) = runL (txW l t l.length) vals := by simp [stN, h, ht, hi]
theorem txW_prefix (l : List EvD) (t : Int) {n m : Nat} (h : n ≤ m) : ∃ r, txW l t m = txW l t n ++ r := by
  induction m with
  | zero => exact ⟨[], by rw [show n = 0 by omega]; rfl⟩
  | succ m ih =>
    rcases (by omega : n ≤ m ∨ n = m + 1) with h1 | rfl
    · obtain ⟨r, hr⟩ := ih h1
      cases he : l[m]? with
      | none => exact ⟨r, by simp only [txW, he]; exact hr⟩
      | some e =>
        by_cases hc : e.tx = t ∧ wkOf l e m = true
        · exact ⟨r ++ [e], by rw [txW_hit he hc.1 hc.2, hr, List.append_assoc]⟩
        · exact ⟨r, by rw [txW_miss he hc]; exact hr⟩
    · exact ⟨[], by simp⟩
theorem runL_none_prefix {a b : List EvD} {vals : List (Ky × Vl)} (h : runL a vals = none) : runL (a ++ b) vals = none := by rw [runL_append, h]; rfl
theorem runL_snoc {a : List EvD} {e : EvD} {vals v1 : List (Ky × Vl)} (h : runL a vals = some v1) : runL (a ++ [e]) vals = runE v1 e := by
  rw [runL_append, h]
  simp only [Option.bind_some, runL]
  cases runE v1 e <;> rfl
theorem runE_write {vals : List (Ky × Vl)} {e : EvD} (h : e.kind = 2) : runE vals e = some (setV vals e.ky e.vl) := by simp [runE, h]
theorem runE_right {vals : List (Ky × Vl)} {e : EvD} (h : ¬ e.kind = 2) (hv : valueOf vals e.ky = e.vl) : runE vals e = some vals := by simp [runE, h, hv]
theorem runE_wrong {vals : List (Ky × Vl)} {e : EvD} (h : ¬ e.kind = 2) (hv : ¬ valueOf vals e.ky = e.vl) : runE vals e = none := by simp [runE, h, hv]
theorem setV_ne (L : List (Ky × Vl)) (k : Ky) (v : Vl) : setV L k v ≠ [] := by
  cases L with
  | nil => simp [setV]
  | cons p L =>
    obtain ⟨k', v'⟩ := p
    simp only [setV]
    split
    · simp
    · split <;> simp
theorem setV_len (L : List (Ky × Vl)) (k : Ky) (v : Vl) : (setV L k v).length ≤ L.length + 1 := by
  induction L with
  | nil => simp [setV]
  | cons p L ih =>
    obtain ⟨k', v'⟩ := p
    simp only [setV]
    split
    · simp; omega
    · split
      · simp
      · simp
theorem runL_len : ∀ {a : List EvD} {vals v' : List (Ky × Vl)}, runL a vals = some v' → v'.length ≤ vals.length + a.length
  | [], _, _, h => by cases h; simp
  | e :: a, vals, v', h => by
    simp only [runL] at h
    cases h1 : runE vals e with
    | none => rw [h1] at h; cases h
    | some v1 =>
      rw [h1] at h
      have h2 := runL_len (a := a) h
      have h3 : v1.length ≤ vals.length + 1 := by
        unfold runE at h1
        split at h1
        · cases h1; exact setV_len _ _ _
        · split at h1
          · cases h1; omega
          · cases h1
      simp; omega
theorem txW_len (l : List EvD) (t : Int) : ∀ n, (txW l t n).length ≤ n
  | 0 => Nat.le_refl _
  | n + 1 => by
    have := txW_len l t n
    simp only [txW]
    split
    · split
      · simp; omega
      · omega
    · omega
theorem stN_len {l : List EvD} {o : List Int} : ∀ {k : Nat} {vals : List (Ky × Vl)}, stN l o k = some vals → vals.length ≤ k * l.length
  | 0, _, h => by cases h; simp
  | k + 1, vals, h => by
    simp only [stN] at h
    cases h1 : stN l o k with
    | none => rw [h1] at h; cases h
    | some v1 =>
      rw [h1] at h
      have h2 := stN_len h1
      have h4 : (k + 1) * l.length = k * l.length + l.length := by rw [Nat.succ_mul]
      simp only [Option.bind_some] at h
      split at h
      · split at h
        · cases h; omega
        · rename_i t _ _
          have h3 := runL_len h
          have := txW_len l t l.length
          omega
      · cases h; omega
theorem Els.take {α : Type} {sz : Nat} {cells : α → List Value} (hcl : ∀ a, (cells a).length = sz) {w : World} {b off c : Nat} {L : List α} (h : Els sz cells w (.slice (some ⟨b, off, none⟩) L.length c) L) {k : Nat} (hk : k ≤ L.length) : Els sz cells w (.slice (some ⟨b, off, none⟩) k c) (L.take k) := by
  have hlen : (L.take k).length = k := by simp; omega
  obtain ⟨A, c', he, hc, hl, h2⟩ := h
  cases he
  refine ⟨some ⟨b, off, none⟩, c, by rw [hlen], by omega, by rw [hlen, flatMap_len hcl, hlen], fun h0 => ?_⟩
  obtain ⟨ad, he, hb, hs, hcell⟩ := h2 (by omega)
  cases he
  refine ⟨_, rfl, hb, hs, fun j u hj => hcell j u ?_⟩
  have e : L.flatMap cells = (L.take k).flatMap cells ++ (L.drop k).flatMap cells := by rw [← List.flatMap_append, List.take_append_drop]
  rw [e, List.getElem?_append_left (List.getElem?_eq_some_iff.1 hj).1]
  exact hj

theorem bytes_ne {s t : ByteArray} (h : (s == t) = false) : ¬ s.toList = t.toList := by
  intro e
  rw [ByteArray.toList_eq, ByteArray.toList_eq] at e
  rw [WideShapes.bytes_inj e, (MapKept.bytes_beq t t).2 rfl] at h
  cases h
/-- Two values of a key: are they others? -/
theorem run_neq_val (a c : Bool) (s t : ByteArray) (W : World) : (binOp .neq 35 (.agg #[.bool a, .string s]) (.agg #[.bool c, .string t])).run Try.prog W = .ok (.bool (!(a == c && s == t))) W := by
  cases h1 : (a == c) <;> cases h2 : (s == t)
  · go_simp
  · go_simp
  · go_simp
    exact bytes_ne h2
  · go_simp
    rw [(MapKept.bytes_beq s t).1 h2]
theorem run_eql_val (a c : Bool) (s t : ByteArray) (W : World) : (binOp .eql 35 (.agg #[.bool a, .string s]) (.agg #[.bool c, .string t])).run Try.prog W = .ok (.bool (a == c && s == t)) W := by
  cases h1 : (a == c) <;> cases h2 : (s == t)
  · go_simp
  · go_simp
  · go_simp
    exact bytes_ne h2
  · go_simp
    rw [(MapKept.bytes_beq s t).1 h2]
theorem same_val {a c : Bool} {s t : ByteArray} : (a == c && s == t) = true ↔ ((a, s) : Vl) = (c, t) := by
  rw [Bool.and_eq_true, beq_iff_eq, MapKept.bytes_beq, Prod.mk.injEq]
end Go.Proofs.Ytddknmgajacofaa
