/-
  PoolFrames: what is told of Frames, and how many are pinned.
-/
import Derived.Test.YtdfccegeihfdpaaGreatDoorPkF
namespace Go.Proofs.YtdfccegeihfdpaaGreatDoor
open Go Go.RowKit

def heldL (os : List FrO) : Nat := (os.filter fun o => decide (0 < o.1.pins)).length
def heldN (f : Nat → Nat) (n : Nat) : Nat := ((List.range n).filter fun m => decide (0 < f m)).length
theorem heldN_succ (f : Nat → Nat) (n : Nat) : heldN f (n + 1) = heldN f n + (if 0 < f n then 1 else 0) := by
  unfold heldN
  rw [List.range_succ, List.filter_append, List.length_append]
  congr 1
  by_cases h : 0 < f n
  · simp [h]
  · simp [h]
theorem heldN_le (f : Nat → Nat) (n : Nat) : heldN f n ≤ n := by
  unfold heldN
  refine Nat.le_trans (List.length_filter_le ..) ?_
  rw [List.length_range]
  exact Nat.le_refl _
theorem heldL_take {os : List FrO} {k : Nat} {o : FrO} (h : os[k]? = some o) : heldL (os.take (k + 1)) = heldL (os.take k) + (if 0 < o.1.pins then 1 else 0) := by
  unfold heldL
  rw [List.take_add_one, h, List.filter_append, List.length_append]
  congr 1
  by_cases h : 0 < o.1.pins
  · simp [h]
  · simp [h]
theorem heldL_le (os : List FrO) (k : Nat) : heldL (os.take k) ≤ os.length := by
  unfold heldL
  refine Nat.le_trans (List.length_filter_le ..) ?_
  rw [List.length_take]
  exact Nat.min_le_right _ _
theorem held_eq {os : List FrO} {f : Nat → Nat} {pg : Nat} (hs : SortF os) (h : ∀ n, (∃ o ∈ os, o.1.no = n ∧ 0 < o.1.pins) ↔ n < pg ∧ 0 < f n) : heldL os = heldN f pg := by
  have h1 : ((os.filter fun o => decide (0 < o.1.pins)).map fun o => o.1.no) = (List.range pg).filter fun m => decide (0 < f m) := by
    refine sorted_same ?_ ?_ ?_
    · exact List.Pairwise.sublist (List.Sublist.map _ List.filter_sublist) hs
    · exact List.Pairwise.sublist List.filter_sublist List.pairwise_lt_range
    · intro n
      rw [List.mem_filter, List.mem_range, decide_eq_true_iff, ← h n]
      constructor
      · intro hn
        obtain ⟨o, ho, rfl⟩ := List.mem_map.1 hn
        obtain ⟨ho, hp⟩ := List.mem_filter.1 ho
        exact ⟨o, ho, rfl, of_decide_eq_true hp⟩
      · rintro ⟨o, ho, rfl, hp⟩
        exact List.mem_map.2 ⟨o, List.mem_filter.2 ⟨ho, decide_eq_true hp⟩, rfl⟩
  have := congrArg List.length h1
  simpa [heldL, heldN] using this
/-- What is told of the frames. -/
structure FrsF (pg fr : Nat) (f : Nat → Nat) (os : List FrO) : Prop where
  len : os.length ≤ fr
  fr : ∀ o ∈ os, o.1.no < pg ∧ o.1.pins = f o.1.no
  held : heldL os = heldN f pg
theorem OwnF.at_ {B : Nat} {w : World} {v : Value} {os : List FrO} (hO : OwnF B w v os) {i : Nat} {o : FrO} (ho : os[i]? = some o) : ∃ b off c, v = .slice (some ⟨b, off, none⟩) os.length c ∧ b < w.heap.size ∧ w.cell? ⟨b, off + i * 6, none⟩ = some (.int .i64 (o.1.no : Nat)) ∧ w.cell? ⟨b, off + i * 6 + 1, none⟩ = some (.int .i64 (o.1.pins : Nat)) := by
  obtain ⟨b, off, c, hv, hb, hc⟩ := hO.els.get frO_len ho
  have h0 := hc 0 (by omega)
  have h1 := hc 1 (by omega)
  rw [Nat.add_zero] at h0
  exact ⟨b, off, c, hv, hb, h0, h1⟩
section
variable {w w1 wr : World} {P l d pg fr x q pb c : Nat} {f g : Nat → Nat}
theorem KX.frames (h : KX w w1 P l d pg fr x q pb c f f wr) (hc : c ≤ 980) : Calls Tryz.prog 32 #[.pointer (some ⟨P, 0, none⟩)] wr fun e w' => ∃ v os B, e = .returned v ∧ OwnF B w' v os ∧ FrsF pg fr f os ∧ Upd Nowhere wr w' := by
  obtain ⟨p, S, T, M, h1, h2⟩ := h.ex
  refine (frames_ok h1.at_ (h1.inv.bounds (by omega))).mono ?_
  rintro e w' ⟨v, os, rfl, hF, hu⟩
  obtain ⟨B, hO⟩ := hF.own
  have key : ∀ o ∈ os, ∃ q ∈ T.L, q.1 = o.1 ∧ o.1.no < pg ∧ o.1.pins = f o.1.no := fun o ho => by
    obtain ⟨q, hq, e⟩ := hF.of o ho
    refine ⟨q, hq, e, ?_, ?_⟩
    · rw [← e]; exact (h1.inv.fr q hq).1
    · rw [← e, ← h2, pinsP_of h1.inv.nos hq]
  refine ⟨v, os, B, rfl, hO, ⟨?_, fun o ho => ?_, ?_⟩, hu⟩
  · have hn : (os.map fun o => o.1.no).Nodup := hF.sort.imp fun h => Nat.ne_of_lt h
    have h3 := nodup_sub_len _ (T.L.map (·.1.no)) hn (fun n hn => by
      obtain ⟨o, ho, rfl⟩ := List.mem_map.1 hn
      obtain ⟨q, hq, e, _⟩ := key o ho
      exact List.mem_map.2 ⟨q, hq, by show q.1.no = _; rw [e]⟩)
    simp only [List.length_map] at h3
    have h4 := h1.inv.len
    have h5 := h1.mst
    omega
  · obtain ⟨_, _, _, a, b⟩ := key o ho
    exact ⟨a, b⟩
  · refine held_eq hF.sort fun n => ⟨?_, ?_⟩
    · rintro ⟨o, ho, rfl, hp⟩
      obtain ⟨_, _, _, a, b⟩ := key o ho
      exact ⟨a, by omega⟩
    · rintro ⟨hn, hp⟩
      obtain ⟨q, _, hq, e⟩ := h1.inv.pinS_of hn (by rw [h2]; omega)
      obtain ⟨o, ho, e2⟩ := hF.mem q hq
      have e3 : o.1.no = n := by rw [e2, e]
      obtain ⟨_, _, _, _, b⟩ := key o ho
      exact ⟨o, ho, e3, by rw [b, e3]; exact hp⟩
end
end Go.Proofs.YtdfccegeihfdpaaGreatDoor
