/-
  append onto a new, empty slice, of whatever elements.
-/
import Derived.Test.YtdadfgaomighnaaGreatDoorLib
namespace Go.Proofs.YtdadfgaomighnaaGreatDoor
open Go Go.RowKit
theorem run_append_new {P : Program} (t e : TypeId) (i : TypeInfo) (z : Value) (size bytes : Nat) (ht : P.underlying t = some (.slice e)) (hi : P.info? e = some i) (hz : i.zero = some z) (hs : i.size = size) (hb : i.bytes = bytes) (hzs : z.cells.size = size) (hpos : 0 < size)
    (w : World) (v : Value) (n : Nat) (xs : List Value) (h : Reads w size v n xs) (h1 : ∀ u ∈ xs, u.oneCell' = true) (hn : n * bytes ≤ 140737488355328) (hm : n ≤ maxLen) :
    ∃ v' w', (Builtin.append_ #[t, t] t #[.slice (some ⟨w.heap.size, 0, none⟩) 0 0, v]).run P (w.alloc (.cells #[] e)) = .ok v' w' ∧ w'.ownsRow w.heap.size e size v' n xs ∧ Upd Nowhere w w' := by
  have hown : (w.alloc (.cells #[] e)).ownsRow w.heap.size e size (.slice (some ⟨w.heap.size, 0, none⟩) 0 0) 0 [] := World.ownsRow_lit w #[] 0 (Nat.le_refl _) (by simp [maxLen]) (by simp)
  obtain ⟨A, c, rfl, hc, hl, hr⟩ := h.alloc (.cells #[] e)
  rcases A with _ | ad
  · have h0 : n = 0 := by
      rcases Nat.eq_zero_or_pos n with h0 | h0
      · exact h0
      · obtain ⟨ad, h, _⟩ := hr h0
        cases h
    subst h0
    have hx : xs = [] := List.eq_nil_of_length_eq_zero (by simpa using hl)
    subst hx
    refine ⟨.slice (some ⟨w.heap.size, 0, none⟩) 0 0, w.alloc (.cells #[] e), ?_, hown, (Upd.refl _ _).alloc _⟩
    simp [Builtin.append_, run_underlying ht, sizeOf, typeInfo, hi, Builtin.lenOf, Builtin.firstCells, storeCells]
  · have hcells : ∀ j u, xs[j]? = some u → (w.alloc (.cells #[] e)).cell? (ad.add j) = some u := by
      intro j u hj
      obtain ⟨hj', _⟩ := List.getElem?_eq_some_iff.1 hj
      have h0 : 0 < n := by
        rcases Nat.eq_zero_or_pos n with h0 | h0
        · subst h0; rw [hl] at hj'; simp at hj'
        · exact h0
      obtain ⟨ad', e, _, _, h⟩ := hr h0
      injection e with e
      subst e
      exact h j u hj
    obtain ⟨v', w', hrun, ho, hg, _, _⟩ := run_append_own_at (P := P) (w.alloc (.cells #[] e)) w.heap.size t t e i z size bytes ht hi hz hs hb hzs hpos _ 0 [] hown ad n c xs hl hcells h1
      (by simpa using hm) (by simpa using hn) (by simp)
    refine ⟨v', w', hrun, by simpa using ho, ((Upd.refl _ _).alloc _).grown hg fun k hk hlt => ?_⟩
    simp [Value.ownBlock] at hk
    omega
end Go.Proofs.YtdadfgaomighnaaGreatDoor
