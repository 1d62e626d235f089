/-
  History: the document's set: rows of cells that are made.
-/
import Derived.Test.YtddknmgajacofaaHistE
import Derived.Deep.RegionHeld3
namespace Go.Proofs.Ytddknmgajacofaa
open Go Go.RowKit

theorem set_split : ∀ {L : List (Ky × Vl)} {k : Ky} {v : Vl} {j : Nat}, j ≤ L.length → (∀ i p, i < j → L[i]? = some p → p.1 < k) → (∀ p, L[j]? = some p → ¬ p.1 < k) →
    setV L k v = L.take j ++ (k, v) :: L.drop (if (L[j]?.map (·.1)) = some k then j + 1 else j)
  | [], k, v, j, h, _, _ => by simp at h; subst h; simp [setV]
  | (k', v') :: r, k, v, 0, _, _, h2 => by
    have h3 : ¬ k' < k := h2 _ rfl
    simp only [setV, if_neg h3]
    by_cases h4 : k' = k
    · simp [h4]
    · simp [h4]
  | (k', v') :: r, k, v, j + 1, h, h1, h2 => by
    have h3 : k' < k := h1 0 _ (by omega) rfl
    simp only [setV, if_pos h3, List.take_succ_cons, List.getElem?_cons_succ, List.cons_append]
    rw [set_split (j := j) (by simpa using h) (fun i p hi hp => h1 (i + 1) p (by omega) (by simpa using hp)) (fun p hp => h2 p (by simpa using hp))]
    congr 2
    split <;> rfl
def flatC (L : List (Ky × Vl)) : List Value := L.flatMap cellC
theorem flatC_append (L K : List (Ky × Vl)) : flatC (L ++ K) = flatC L ++ flatC K := by simp [flatC]
theorem flatC_length (L : List (Ky × Vl)) : (flatC L).length = L.length * 3 := flatMap_len cellC_len L
theorem flatC_one (L : List (Ky × Vl)) : ∀ u ∈ flatC L, u.oneCell' = true := by
  intro u hu
  obtain ⟨x, _, hu⟩ := List.mem_flatMap.1 hu
  simp only [cellC, List.mem_cons, List.not_mem_nil, or_false] at hu
  rcases hu with rfl | rfl | rfl <;> rfl
theorem info_cell : (Try.prog.info? 83).map (fun i => (i.zero, i.size, i.bytes)) = some (some (.agg #[.string ⟨#[]⟩, .bool false, .string ⟨#[]⟩]), 3, 40) := by kernel_rfl
/-- append of cells to a row that is made. -/
theorem run_append_cells (W : World) (v : Value) (n : Nat) (xs : List Value) (hrow : W.ownsRow 0 83 3 v n xs) (ad : Addr) (m c : Nat) (news : List Value) (hl : news.length = m * 3) (hcells : ∀ j u, news[j]? = some u → W.cell? (ad.add j) = some u) (h1 : ∀ u ∈ news, u.oneCell' = true) (hn : n + m ≤ 100000) :
    ∃ v' w', (Builtin.append_ #[37, 37] 37 #[v, .slice (some ad) m c]).run Try.prog W = .ok v' w' ∧
      w'.ownsRow 0 83 3 v' (n + m) (xs ++ news) ∧ Upd (fun k => v.ownBlock = some k) W w' ∧ (∀ k, v'.ownBlock = some k → v.ownBlock = some k ∨ W.heap.size ≤ k) := by
  obtain ⟨i, hi, hz, hs, hb⟩ := info_parts info_cell
  obtain ⟨v', w', hrun, ho, hg, _, hown⟩ := run_append_own_at (P := Try.prog) W 0 37 37 83 i _ 3 40 Try.underlying37 hi hz hs hb rfl (by omega) v n xs hrow ad m c news hl hcells h1 (by simp only [maxLen]; omega) (by omega) (Nat.zero_le _)
  refine ⟨v', w', hrun, ho, (Upd.refl _ W).grown hg fun k hk _ => hk, fun k hk => ?_⟩
  rcases hown with e | e
  · rw [e] at hk; exact .inl hk
  · rw [e] at hk
    simp at hk
    right
    omega
/-- append of nothing. -/
theorem run_append_none (W : World) (B : Option Addr) (n cap c : Nat) (hn : n ≤ cap) : (Builtin.append_ #[37, 37] 37 #[.slice B n cap, .slice none 0 c]).run Try.prog W = .ok (.slice B n cap) W := by
  have hz : (sizeOf 83).run Try.prog W = .ok 3 W := Try.sizeOf83 W
  have hu : (underlying 37).run Try.prog W = .ok (.slice 83) W := by simp [underlying, Try.underlying37]
  cases B with
  | none => simp [Builtin.append_, Sem.run_bind, hu, hz, Result.andThen, Builtin.lenOf, hn, Builtin.firstCells]
  | some a => simp [Builtin.append_, Sem.run_bind, hu, hz, Result.andThen, Builtin.lenOf, hn, Builtin.firstCells, storeCells]
/-- A row that was made since w0, and nothing else has changed. -/
structure Made (w0 w : World) (v : Value) (L : List (Ky × Vl)) : Prop where
  row : w.ownsRow 0 83 3 v L.length (flatC L)
  new : ∀ k, v.ownBlock = some k → w0.heap.size ≤ k
  upd : Upd Nowhere w0 w
theorem Made.nil (w : World) : Made w w (.slice none 0 0) [] := ⟨World.ownsRow_nil _ _ _ _, (fun _ h => by cases h), Upd.refl _ _⟩
theorem Made.alloc {w0 w : World} {v : Value} {L : List (Ky × Vl)} (h : Made w0 w v L) (o : Obj) : Made w0 (w.alloc o) v L := ⟨own_upd h.row ((Upd.refl Nowhere w).alloc o) fun _ _ => id, h.new, h.upd.alloc o⟩
theorem Made.app {w0 w : World} {v : Value} {L : List (Ky × Vl)} (h : Made w0 w v L) (ad : Addr) (m c : Nat) (K : List (Ky × Vl)) (hm : K.length = m) (hK : ∀ j u, (flatC K)[j]? = some u → w.cell? (ad.add j) = some u) (hn : L.length + m ≤ 100000) :
    ∃ v' w', (Builtin.append_ #[37, 37] 37 #[v, .slice (some ad) m c]).run Try.prog w = .ok v' w' ∧ Made w0 w' v' (L ++ K) ∧ ∀ g cs, Blk w g 35 cs → Blk w' g 35 cs := by
  subst hm
  obtain ⟨v', w', hrun, ho, hu, hv⟩ := run_append_cells w v L.length (flatC L) h.row ad K.length c (flatC K) (flatC_length K) hK (flatC_one K) hn
  refine ⟨v', w', hrun, ⟨by rw [flatC_append, List.length_append]; exact ho, fun k hk => ?_, h.upd.trans hu fun k hk e => ?_⟩, fun g cs hb => hb.upd hu fun e => own_blk_ne h.row hb (by decide) e⟩
  · rcases hv k hk with e | e
    · exact h.new k e
    · have := h.upd.size; omega
  · have := h.new k e; omega
theorem Made.app1 {w0 w : World} {v : Value} {L : List (Ky × Vl)} (h : Made w0 w v L) (p : Ky × Vl) (hn : L.length + 1 ≤ 100000) :
    ∃ v' w', (Builtin.append_ #[37, 37] 37 #[v, .slice (some ⟨w.heap.size, 0, none⟩) 1 1]).run Try.prog (w.alloc (.cells #[.string ⟨p.1.toArray⟩, .bool p.2.1, .string p.2.2] 83)) = .ok v' w' ∧ Made w0 w' v' (L ++ [p]) ∧ ∀ g cs, Blk w g 35 cs → Blk w' g 35 cs := by
  have hb := Blk.new w 83 #[.string ⟨p.1.toArray⟩, .bool p.2.1, .string p.2.2]
  obtain ⟨v', w', h1, h2, h3⟩ := (h.alloc (.cells #[.string ⟨p.1.toArray⟩, .bool p.2.1, .string p.2.2] 83)).app ⟨w.heap.size, 0, none⟩ 1 1 [p] rfl (fun j u hj => by
    have e : (⟨w.heap.size, 0, none⟩ : Addr).add j = ⟨w.heap.size, j, none⟩ := by unfold Addr.add; split <;> simp_all
    rw [e, hb.cell j]
    simpa [flatC, cellC] using hj) hn
  exact ⟨v', w', h1, h2, fun g cs hg => h3 g cs (hg.alloc _)⟩
end Go.Proofs.Ytddknmgajacofaa
