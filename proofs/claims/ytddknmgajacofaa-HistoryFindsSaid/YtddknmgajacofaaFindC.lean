/-
  HistoryFinds: an event of a copy gets another value.
-/
import Derived.Test.YtddknmgajacofaaHistT
import Derived.Test.YtddknmgajacofaaHistO
import Derived.Test.YtddknmgajacofaaFindA
import Derived.Test.YtddknmgajacofaaFindB
namespace Go.Proofs.Ytddknmgajacofaa
open Go Go.RowKit

theorem flat_set : ∀ (l : List EvD) (a : Nat) (e : EvD) (vh : Bool) (vd : ByteArray), l[a]? = some e → ((l.flatMap EvD.cells).set (a * 5 + 3) (.bool vh)).set (a * 5 + 4) (.string vd) = (l.set a { e with has := vh, data := vd }).flatMap EvD.cells
  | [], _, _, _, _, h => by simp at h
  | x :: l, 0, e, vh, vd, h => by
    simp only [List.getElem?_cons_zero, Option.some.injEq] at h
    subst h
    simp [EvD.cells]
  | x :: l, a + 1, e, vh, vd, h => by
    simp only [List.getElem?_cons_succ] at h
    have ih := flat_set l a e vh vd h
    simp only [List.set_cons_succ, List.flatMap_cons]
    rw [← ih, show (a + 1) * 5 + 3 = (a * 5 + 3) + 5 by omega, show (a + 1) * 5 + 4 = (a * 5 + 4) + 5 by omega]
    simp only [EvD.cells, List.cons_append, List.nil_append, List.set_cons_succ]
/-- The copy's event gets a value. -/
theorem OwnR.give {B : Nat} {W : World} {v : Value} {l : List EvD} (h : OwnE B W v l) {a : Nat} {e : EvD} (he : l[a]? = some e) (vh : Bool) (vd : ByteArray) :
    ∃ g cap, v = .slice (some ⟨g, 0, none⟩) l.length cap ∧ B ≤ g ∧ g < W.heap.size ∧ (∀ i, W.frozen? ⟨g, i, none⟩ = false) ∧ W.cell? ⟨g, a * 5 + 3, none⟩ = some (.bool e.has) ∧ W.cell? ⟨g, a * 5 + 4, none⟩ = some (.string e.data) ∧ (∃ cs, W.heap[g]? = some (.cells cs 41 (0, 0))) ∧
      OwnE B ((W.setCell ⟨g, a * 5 + 3, none⟩ (.bool vh)).setCell ⟨g, a * 5 + 4, none⟩ (.string vd)) v (l.set a { e with has := vh, data := vd }) := by
  have ha := (List.getElem?_eq_some_iff.1 he).1
  have hnew := h.new
  obtain ⟨b, off, c, hv, hb, q0, q1, q2, q3, q4⟩ := event_at h.els he
  rcases h.row with ⟨hl, ⟨_, h0⟩ | ⟨g, cap, cur, hv2, _, hh, h1, h2, h3, h4⟩⟩
  · omega
  · subst hv2
    have hbg : b = g ∧ off = 0 := by injection hv with h5 _ _; injection h5 with h5; injection h5 with h5 h6; exact ⟨h5.symm, h6.symm⟩
    obtain ⟨rfl, rfl⟩ := hbg
    have hB : Blk W b 41 cur := hh
    refine ⟨b, cap, rfl, hnew b rfl, hb, hB.frozen, by simpa using q3, by simpa using q4, ⟨cur, hh⟩, ⟨⟨by simp [flatMap_len EvD.cells_len], .inr ⟨b, cap, _, by simp, Nat.zero_le _, (hB.set_ (a * 5 + 3) (.bool vh)).set_ (a * 5 + 4) (.string vd), by simpa using h1, h2, by simpa using h3, ?_⟩⟩, fun k hk => hnew k hk⟩⟩
    simp only [Array.toList_setIfInBounds, List.length_set, List.take_set, h4]
    exact flat_set l a e vh vd he
end Go.Proofs.Ytddknmgajacofaa
