/-
  One record of up to 4096 bytes in an empty log of 40 sheets.
-/
import Derived.Test.YtljmmkjdlcfkpaaGreatDoorWtA
namespace Go.Proofs.YtljmmkjdlcfkpaaGreatDoor
open Go Go.RowKit

theorem FullS.added1 {count : Nat} {S : LogS} (h : FullS count 0 S) (h1 : 8 ≤ count) (h2 : count ≤ 300) {b : Bs} (hb : b.length ≤ 4096) : LogB 0 (S.add b) ∧ (S.add b).pendB = [b] := by
  have hp : (S.add b).pendB = [b] := by rw [S.add_pend b (by rw [h.frc, h.len]; exact Nat.le_refl _), h.pend]; rfl
  refine ⟨?_, hp⟩
  have hl := sealO_len (b := b) (by omega)
  obtain ⟨a1, a2, a3, a4, a5, a6, a7, a8, a9⟩ := h
  refine ⟨?_, ?_, ?_, ?_, ?_, ?_, ?_, ?_, ?_, ?_, ?_, ?_, ?_, ?_, ?_, a8.read, ?_⟩
  case refine_12 =>
    rw [hp, layAll_fst, allB_cons, allB_nil, List.append_nil]
    omega
  all_goals simp only [LogS.add]
  · omega
  · rw [a2]; decide
  · rw [a2]; decide
  · rw [a2]; simp only [mast2]; omega
  · omega
  · rw [a2]; decide
  · rw [a2]; decide
  · rw [List.length_append]; omega
  · rw [List.length_append, List.length_singleton]; omega
  · omega
  · intro x hx
    rcases List.mem_append.1 hx with hx | hx
    · exact a9 x hx
    · rw [List.mem_singleton.1 hx]; simp only; omega
  · rw [a8.size]; omega
  · rw [a8.fuse]; omega
  · rw [a8.syncs]; omega
  · have := a8.pend; omega
theorem pages1 {b : Bs} (hb : b.length ≤ 4096) : pagesN (allB [b]).length ≤ 20 := by
  have hl := sealO_len (b := b) hb
  rw [allB_cons, allB_nil, List.append_nil]
  unfold pagesN
  omega
theorem FullS.roomy1 {count : Nat} {S : LogS} (h : FullS count 0 S) (h1 : 40 ≤ count) {b : Bs} (hb : b.length ≤ 4096) : S.roomy b 0 = true := by
  have hp := pages1 hb
  have hn : S.need b ≤ 20 := by
    unfold LogS.need
    rw [h.pend, List.nil_append, layAll_fst]
    exact hp
  unfold LogS.roomy
  rw [h.nxt, h.mst, h.cnt]
  simp only [mast2]
  exact decide_eq_true (by omega)
theorem FullS.force1 {count : Nat} {S : LogS} (h : FullS count 0 S) (h1 : 40 ≤ count) (h2 : count ≤ 300) {b : Bs} (hb : b.length ≤ 4096) : ∃ S', (S.add b).forceS = (S', 0) ∧ LogB 0 S' ∧ S'.down = false ∧ S'.m = mast2 := by
  obtain ⟨hB, hp⟩ := h.added1 (by omega) h2 hb
  have hil : (S.add b).items.length = 1 := by simp only [LogS.add]; rw [List.length_append, h.len]; rfl
  obtain ⟨D, hD, hok⟩ := hB.forced (sz := 2 + count) (sy := 2 + (0 : Nat)) (pl := 0) h.dk (by show S.forced ≠ _; rw [hil, h.frc]; omega)
  have hpn := pages1 hb
  rw [← hp] at hpn
  rw [hD]
  have hbd := hB.bod
  refine ⟨_, rfl, ⟨?_, ?_, ?_, ?_, ?_, ?_, ?_, ?_, ?_, ?_, ?_, ?_, ?_, ?_, ?_, hok.read, ?_⟩, h.dwn, h.mst⟩
  · exact hB.cnt
  · exact hB.gen
  · exact hB.inc
  · show 0 ≤ S.m.first ∧ S.m.first ≤ ((S.next + _ : Nat) : Int) ∧ ((S.next + _ : Nat) : Int) ≤ S.m.first + S.count
    rw [h.mst, h.nxt, h.cnt]
    simp only [mast2]
    omega
  · show S.next + _ ≤ _
    rw [h.nxt]
    omega
  · exact hB.lsn
  · exact hB.chk
  · simp only
    rw [placed_len]
    exact Nat.le_refl _
  · simp only
    rw [placed_len]
    exact hB.len
  · show S.forces + 1 ≤ _
    have := h.fcs
    omega
  · intro x hx
    obtain ⟨i, hi⟩ := List.getElem?_of_mem hx
    simp only at hi
    rw [placed_get] at hi
    cases hq : (S.add b).items[i]? with
    | none => rw [hq] at hi; cases hi
    | some y =>
      rw [hq] at hi
      simp only [Option.map_some, Option.some.injEq] at hi
      have := hbd y (List.mem_of_getElem? hq)
      split at hi
      · rw [← hi]; exact this
      · rw [← hi]; exact this
  · have e : (⟨D, (S.add b).count, (S.add b).m, placed (S.add b).items (S.add b).forced (S.add b).next (placesB 0 0 (S.add b).pendB) ((S.add b).items.length - (S.add b).forced), (S.add b).items.length, (S.add b).next + pagesN (allB (S.add b).pendB).length, (S.add b).forces + 1, (S.add b).down⟩ : LogS).pendB = [] := by
      unfold LogS.pendB
      simp only
      rw [List.drop_eq_nil_of_le (by rw [placed_len]; exact Nat.le_refl _)]
      rfl
    rw [e]
    exact Nat.zero_le _
  · show S.count + 2 ≤ D.size ∧ _
    rw [hok.size, h.cnt]
    omega
  · have := hok.fuse
    show D.fuse ≤ _
    omega
  · show 0 ≤ D.syncs ∧ D.syncs ≤ _
    rw [hok.syncs]
    omega
  · have := hok.pend
    show D.pend.length ≤ _
    omega
end Go.Proofs.YtljmmkjdlcfkpaaGreatDoor
