/-
  History: a key's value among the document's cells.
-/
import Derived.Test.YtddknmgajacofaaHistD
namespace Go.Proofs.Ytddknmgajacofaa
open Go Go.RowKit

def cellC (p : Ky × Vl) : List Value := [.string ⟨p.1.toArray⟩, .bool p.2.1, .string p.2.2]
theorem cellC_len (p : Ky × Vl) : (cellC p).length = 3 := rfl
abbrev CellsE := Els 3 cellC
def valV (v : Vl) : Value := .agg #[.bool v.1, .string v.2]
theorem cell_at {w : World} {v : Value} {L : List (Ky × Vl)} (h : CellsE w v L) {i : Nat} {p : Ky × Vl} (hz : L[i]? = some p) : ∃ b off c, v = .slice (some ⟨b, off, none⟩) L.length c ∧ b < w.heap.size ∧
    w.cell? ⟨b, off + i * 3, none⟩ = some (.string ⟨p.1.toArray⟩) ∧ w.cell? ⟨b, off + i * 3 + 1, none⟩ = some (.bool p.2.1) ∧ w.cell? ⟨b, off + i * 3 + 2, none⟩ = some (.string p.2.2) := by
  obtain ⟨b, off, c, rfl, hb, hc⟩ := h.get cellC_len hz
  exact ⟨b, off, c, rfl, hb, hc 0 (by omega), hc 1 (by omega), hc 2 (by omega)⟩
theorem valueOf_hit : ∀ {L : List (Ky × Vl)} {k : Ky} {i : Nat} {v : Vl}, L[i]? = some (k, v) → (∀ j p, j < i → L[j]? = some p → p.1 ≠ k) → valueOf L k = v
  | [], _, _, _, h, _ => by simp at h
  | (k', v') :: r, k, 0, v, h, _ => by
    obtain ⟨rfl, rfl⟩ : k' = k ∧ v' = v := by simpa using h
    simp [valueOf]
  | (k', v') :: r, k, i + 1, v, h, hn => by
    have h1 : k' ≠ k := hn 0 (k', v') (by omega) rfl
    simp only [valueOf, if_neg h1]
    exact valueOf_hit (by simpa using h) fun j p hj hp => hn (j + 1) p (by omega) (by simpa using hp)
theorem valueOf_none : ∀ {L : List (Ky × Vl)} {k : Ky}, (∀ p ∈ L, p.1 ≠ k) → valueOf L k = noV
  | [], _, _ => rfl
  | (k', v') :: r, k, h => by
    have h1 : k' ≠ k := h (k', v') (List.mem_cons_self ..)
    simp only [valueOf, if_neg h1]
    exact valueOf_none fun p hp => h p (List.mem_cons_of_mem _ hp)
end Go.Proofs.Ytddknmgajacofaa
