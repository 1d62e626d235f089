/-
  The pool's log where the disk is up: records of one key each, forced now and then, between which pages are saved (plain Lean, no program in sight).
-/
import Derived.Test.YtdfccegeihfdpaaGreatDoorPoE
namespace Go.Proofs.YtdfccegeihfdpaaGreatDoor
open Go

structure PLg (pages c : Nat) (S : LogS) : Prop where
  cnt : S.count = 200
  mst : S.m = mast2
  frc : S.forced ≤ S.items.length
  len : S.items.length ≤ c
  nxt : S.next + pagesN (allB S.pendB).length ≤ 200
  dwn : S.down = false
  fcs : S.forces ≤ c
  bod : ∀ x ∈ S.items, x.1.length ≤ 200
  dk : ∃ sy : Int, DkOK S.dk (202 + 2 * pages) sy 0 ∧ 0 ≤ sy ∧ sy ≤ 2 + 2 * c
section
variable {pages c : Nat} {S : LogS}
theorem PLg.bounds (h : PLg pages c S) (hp : pages ≤ 20) (hc : c ≤ 1000) : LogB 2 S := by
  obtain ⟨a1, a2, a3, a4, a5, a6, a7, a8, sy, hd, s1, s2⟩ := h
  refine ⟨by omega, by rw [a2]; decide, by rw [a2]; decide, by rw [a2]; simp only [mast2]; omega, by omega, by rw [a2]; decide, by rw [a2]; decide, a3, by omega, by omega, fun x hx => by have := a8 x hx; omega, ?_, by rw [hd.size]; omega, by rw [hd.fuse]; omega, by rw [hd.syncs]; omega, hd.read, by have := hd.pend; omega⟩
  rw [layAll_fst]
  unfold pagesN at a5
  omega
theorem PLg.mono (h : PLg pages c S) {c' : Nat} (hc : c ≤ c') : PLg pages c' S := by
  obtain ⟨a1, a2, a3, a4, a5, a6, a7, a8, sy, hd, s1, s2⟩ := h
  exact ⟨a1, a2, a3, by omega, a5, a6, by omega, a8, sy, hd, s1, by omega⟩
theorem PLg.add (h : PLg pages c S) {b : Bs} (hb : b.length ≤ 200) (hr : S.roomy b 0 = true) : PLg pages (c + 1) (S.add b) := by
  have hp := S.add_pend b h.frc
  obtain ⟨a1, a2, a3, a4, a5, a6, a7, a8, sy, hd, s1, s2⟩ := h
  refine ⟨a1, a2, ?_, ?_, ?_, a6, by show S.forces ≤ c + 1; omega, ?_, sy, hd, s1, by omega⟩
  · simp only [LogS.add, List.length_append]; omega
  · simp only [LogS.add, List.length_append, List.length_singleton]; omega
  · rw [hp]
    have h1 := of_decide_eq_true hr
    rw [a2] at h1
    unfold LogS.need at h1
    rw [layAll_fst] at h1
    simp only [mast2, LogS.add] at h1 ⊢
    rw [a1] at h1
    omega
  · intro x hx
    rcases List.mem_append.1 hx with hx | hx
    · exact a8 x hx
    · rw [List.mem_singleton.1 hx]; exact hb
theorem PLg.force (h : PLg pages c S) (hp : pages ≤ 20) (hc : c ≤ 1000) : S.forceS.2 = 0 ∧ PLg pages (c + 1) S.forceS.1 ∧ S.forceS.1.forced = S.items.length ∧ S.forceS.1.items.length = S.items.length := by
  by_cases hf : S.forced = S.items.length
  · have e : S.forceS = (S, 0) := by unfold LogS.forceS; rw [if_pos hf]
    rw [e]
    exact ⟨rfl, h.mono (by omega), hf, rfl⟩
  · have hB := h.bounds hp hc
    obtain ⟨a1, a2, a3, a4, a5, a6, a7, a8, sy, hd, s1, s2⟩ := h
    obtain ⟨D, hD, hok⟩ := hB.forced hd hf
    rw [hD]
    have hpe : LogS.pendB { S with dk := D, items := placed S.items S.forced S.next (placesB 0 0 S.pendB) (S.items.length - S.forced), forced := S.items.length, next := S.next + pagesN (allB S.pendB).length, forces := S.forces + 1 } = [] := by
      unfold LogS.pendB
      simp only
      rw [List.drop_of_length_le (by rw [placed_len]; exact Nat.le_refl _)]
      rfl
    refine ⟨rfl, ⟨a1, a2, by simp only; rw [placed_len]; exact Nat.le_refl _, by simp only; rw [placed_len]; omega, ?_, a6, by simp only; omega, ?_, sy + 1, hok, by omega, by omega⟩, rfl, by simp only; rw [placed_len]⟩
    · rw [hpe]
      simp only [allB_nil, List.length_nil]
      unfold pagesN at a5 ⊢
      omega
    · intro x hx
      obtain ⟨i, hi⟩ := List.getElem?_of_mem hx
      simp only at hi
      rw [placed_get] at hi
      cases hq : S.items[i]? with
      | none => rw [hq] at hi; cases hi
      | some y =>
        rw [hq] at hi
        simp only [Option.map_some, Option.some.injEq] at hi
        have := a8 y (List.mem_of_getElem? hq)
        split at hi
        · rw [← hi]; exact this
        · rw [← hi]; exact this
theorem PLg.save (h : PLg pages c S) {n turn : Nat} {p : PgP} (hp : p.ok) (h1 : 1 ≤ turn) (h2 : turn ≤ 1099511627776) : (saveS S.dk n turn p).2 = 0 ∧ PLg pages (c + 1) { S with dk := (saveS S.dk n turn p).1 } := by
  obtain ⟨a1, a2, a3, a4, a5, a6, a7, a8, sy, hd, s1, s2⟩ := h
  obtain ⟨g1, g2, _⟩ := save_up hd (n := n) (turn := turn) hp h1 h2
  exact ⟨g1, a1, a2, a3, by show S.items.length ≤ c + 1; omega, a5, a6, by show S.forces ≤ c + 1; omega, a8, sy + 1, g2, by omega, by omega⟩
theorem PLg.start (pages : Nat) : PLg pages 0 ⟨disk2 (202 + 2 * pages), 200, mast2, [], 0, 0, 0, false⟩ :=
  ⟨rfl, rfl, Nat.le_refl _, Nat.le_refl _, by show 0 + pagesN (allB []).length ≤ 200; rw [allB_nil]; decide, rfl, Nat.le_refl _, (fun x hx => by cases hx), 2, (disk2_ok _).2, by omega, by omega⟩
end
/-- On the log's first disk nothing is where the pages are. -/
theorem disk2_quiet (n : Nat) (k : Int) (hk : 202 ≤ k) : Quiet (disk2 n) k none := by
  have h0 : Quiet (DiskS.empty n) k none := ⟨rfl, rfl⟩
  have hs : ∀ {D : DiskS} {m : MastS}, Quiet D k none → Quiet (D.save m).1 k none := fun {D m} h => by
    have h1 : Quiet (D.put (m.gen % 2) m.pay).1 k none := h.put (by omega)
    unfold DiskS.save
    split
    rename_i S1 e he
    rw [he] at h1
    split
    · exact h1
    · exact h1.sync
  exact hs (hs h0)
end Go.Proofs.YtdfccegeihfdpaaGreatDoor
