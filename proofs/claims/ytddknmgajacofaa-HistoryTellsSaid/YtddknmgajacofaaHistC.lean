/-
  History: the document's in, first, is, works: their contracts.
-/
import Derived.Test.YtddknmgajacofaaHistA
import Derived.Test.YtddknmgajacofaaKeepA
import Derived.Test.YtddknmgajacofaaRows
namespace Go.Proofs.Ytddknmgajacofaa
open Go Go.RowKit

def EvD.cells (e : EvD) : List Value := [.int .i64 e.kind, .int .i64 e.tx, .string e.key, .bool e.has, .string e.data]
theorem EvD.cells_len (e : EvD) : e.cells.length = 5 := rfl
abbrev EvsE := Els 5 EvD.cells
abbrev NumsE := Els 1 (fun n : Int => [Value.int .i64 n])
theorem event_at {w : World} {v : Value} {L : List EvD} (h : EvsE w v L) {i : Nat} {e : EvD} (hz : L[i]? = some e) : ∃ b off c, v = .slice (some ⟨b, off, none⟩) L.length c ∧ b < w.heap.size ∧
    w.cell? ⟨b, off + i * 5, none⟩ = some (.int .i64 e.kind) ∧ w.cell? ⟨b, off + i * 5 + 1, none⟩ = some (.int .i64 e.tx) ∧ w.cell? ⟨b, off + i * 5 + 2, none⟩ = some (.string e.key) ∧ w.cell? ⟨b, off + i * 5 + 3, none⟩ = some (.bool e.has) ∧ w.cell? ⟨b, off + i * 5 + 4, none⟩ = some (.string e.data) := by
  obtain ⟨b, off, c, rfl, hb, hc⟩ := h.get EvD.cells_len hz
  exact ⟨b, off, c, rfl, hb, hc 0 (by omega), hc 1 (by omega), hc 2 (by omega), hc 3 (by omega), hc 4 (by omega)⟩
theorem num_at {w : World} {v : Value} {L : List Int} (h : NumsE w v L) {i : Nat} {n : Int} (hz : L[i]? = some n) : ∃ b off c, v = .slice (some ⟨b, off, none⟩) L.length c ∧ b < w.heap.size ∧ w.cell? ⟨b, off + i, none⟩ = some (.int .i64 n) := by
  obtain ⟨b, off, c, rfl, hb, hc⟩ := h.get (fun _ => rfl) hz
  have := hc 0 (by omega)
  rw [Nat.mul_one] at this
  exact ⟨b, off, c, rfl, hb, this⟩
theorem isAt_of {l : List EvD} {i : Nat} {e : EvD} (h : l[i]? = some e) (t k : Int) : isAt l t k i = (decide (e.tx = t) && decide (e.kind = k)) := by simp [isAt, h]
theorem firstE_hit {l : List EvD} {t k : Int} {i : Nat} (h : isAt l t k i = true) (hn : ∀ j, j < i → isAt l t k j = false) : firstE l t k = i := by
  obtain ⟨a, _, c, d⟩ := firstN_spec l t k l.length 0
  have hi := isAt_lt h
  show firstN l l.length 0 t k = i
  generalize firstN l l.length 0 t k = p at *
  rcases Nat.lt_trichotomy p i with h1 | h1 | h1
  · have := d (by omega); rw [hn p h1] at this; cases this
  · exact h1
  · rw [a i (by omega) h1] at h; cases h
theorem firstE_none {l : List EvD} {t k : Int} (hn : ∀ j, j < l.length → isAt l t k j = false) : firstE l t k = l.length := by
  obtain ⟨a, _, c, d⟩ := firstN_spec l t k l.length 0
  show firstN l l.length 0 t k = l.length
  generalize firstN l l.length 0 t k = p at *
  rcases (by omega : p < l.length ∨ p = l.length) with h | h
  · have := d (by omega); rw [hn p h] at this; cases this
  · exact h
theorem firstE_le (l : List EvD) (t k : Int) : firstE l t k ≤ l.length := by
  obtain ⟨_, _, c, _⟩ := firstN_spec l t k l.length 0
  show firstN l l.length 0 t k ≤ l.length
  omega

set_option maxHeartbeats 1000000 in
theorem hin_ok {w : World} {v : Value} {l : List Int} (h : NumsE w v l) (hl : l.length ≤ 1000) (n : Int) : Calls Try.prog 26 #[v, .int .i64 n] w fun e w' => e = .returned (.bool (decide (n ∈ l))) ∧ w' = w := by
  obtain ⟨A, c, rfl, hc⟩ := h.val
  have H := Lib.hid h
  clear h
  go_enter Try.func26, Try.ntmps26
  go_wp2_with fail
  go_loopw [5] (fun t wr => ∃ k : Nat, k ≤ l.length ∧ t = .int .i64 k ∧ (∀ j, j < k → l[j]? ≠ some n) ∧ wr = w) (fun t _ => l.length - (intOf t).toNat)
  case atStart => exact ⟨0, by omega, rfl, fun j hj => absurd hj (by omega), rfl⟩
  case round =>
    obtain ⟨k, hk, rfl, hno, rfl⟩ := hrel
    by_cases hlt : k < l.length
    · obtain ⟨m, hm⟩ : ∃ m, l[k]? = some m := ⟨_, List.getElem?_eq_getElem hlt⟩
      obtain ⟨b, off, c', he, hb, h0⟩ := num_at H.out hm
      cases he
      have hi : (k : Int) < (l.length : Nat) := by omega
      have HNO := Lib.hid hno
      have HM := Lib.hid hm
      clear hno hm
      by_cases heq : m = n
      · subst heq
        go_wp2_with fail
        go_ret
        refine ⟨?_, rfl⟩
        have : m ∈ l := List.mem_of_getElem? HM.out
        simp [this]
      · go_wp2_with fail
        go_roundw
        case rel =>
          refine ⟨k + 1, by omega, by go_num, fun j hj => ?_, by trivial⟩
          rcases (by omega : j < k ∨ j = k) with h1 | rfl
          · exact HNO.out j h1
          · rw [HM.out]; intro e; exact heq (Option.some.inj e)
        case measure => simp [intOf]; omega
    · have e : ¬ (k : Int) < (l.length : Nat) := by omega
      have HNO := Lib.hid hno
      clear hno
      go_wp2_with fail
      go_ret
      refine ⟨?_, rfl⟩
      have : n ∉ l := fun hm => by
        obtain ⟨j, hj, e⟩ := List.getElem_of_mem hm
        exact HNO.out j (by omega) (by rw [List.getElem?_eq_getElem hj, e])
      simp [this]
set_option maxHeartbeats 1000000 in
theorem hfirst_ok {w : World} {v : Value} {l : List EvD} (h : EvsE w v l) (hl : l.length ≤ 1000) (t kd : Int) : Calls Try.prog 44 #[v, .int .i64 t, .int .i64 kd] w fun e w' => e = .returned (.int .i64 (firstE l t kd : Nat)) ∧ w' = w := by
  obtain ⟨A, c, rfl, hc⟩ := h.val
  have H := Lib.hid h
  clear h
  go_enter Try.func44, Try.ntmps44
  go_wp2_with fail
  go_loopw [7] (fun s wr => ∃ k : Nat, k ≤ l.length ∧ s = .int .i64 k ∧ (∀ j, j < k → isAt l t kd j = false) ∧ wr = w) (fun s _ => l.length - (intOf s).toNat)
  case atStart => exact ⟨0, by omega, rfl, fun j hj => absurd hj (by omega), rfl⟩
  case round =>
    obtain ⟨k, hk, rfl, hno, rfl⟩ := hrel
    by_cases hlt : k < l.length
    · obtain ⟨m, hm⟩ : ∃ m, l[k]? = some m := ⟨_, List.getElem?_eq_getElem hlt⟩
      obtain ⟨b, off, c', he, hb, h0, h1, _, _, _⟩ := event_at H.out hm
      cases he
      have hi : (k : Int) < (l.length : Nat) := by omega
      have HNO := Lib.hid hno
      have HM := Lib.hid (isAt_of hm t kd)
      clear hno hm
      by_cases e1 : m.tx = t
      · by_cases e2 : m.kind = kd
        · have HF : Hid (firstE l t kd = k) := Lib.hid (firstE_hit (by rw [HM.out]; simp [e1, e2]) HNO.out)
          go_wp2_with fail
          go_ret
          exact ⟨by rw [HF.out]; rfl, rfl⟩
        · have HF : Hid (isAt l t kd k = false) := Lib.hid (by rw [HM.out]; simp [e2])
          go_wp2_with fail
          go_roundw
          case rel =>
            refine ⟨k + 1, by omega, by go_num, fun j hj => ?_, by trivial⟩
            rcases (by omega : j < k ∨ j = k) with h1 | rfl
            · exact HNO.out j h1
            · exact HF.out
          case measure => simp [intOf]; omega
      · have HF : Hid (isAt l t kd k = false) := Lib.hid (by rw [HM.out]; simp [e1])
        go_wp2_with fail
        go_roundw
        case rel =>
          refine ⟨k + 1, by omega, by go_num, fun j hj => ?_, by trivial⟩
          rcases (by omega : j < k ∨ j = k) with h1 | rfl
          · exact HNO.out j h1
          · exact HF.out
        case measure => simp [intOf]; omega
    · have e : ¬ (k : Int) < (l.length : Nat) := by omega
      have HF : Hid (firstE l t kd = l.length) := Lib.hid (firstE_none fun j hj => hno j (by omega))
      clear hno
      go_wp2_with fail
      go_ret
      exact ⟨by rw [HF.out]; rfl, rfl⟩
theorem his_ok {w : World} {v : Value} {l : List EvD} (h : EvsE w v l) (hl : l.length ≤ 1000) (t : Int) : Calls Try.prog 28 #[v, .int .i64 t] w fun e w' => e = .returned (.bool (decide (firstE l t 3 < firstE l t 4))) ∧ w' = w := by
  have H := Lib.hid h
  clear h
  go_enter Try.func28, Try.ntmps28
  go_wp2_with fail
  refine (hfirst_ok H.out hl t 3).mono ?_
  rintro e _ ⟨rfl, rfl⟩
  go_wp2_with fail
  refine (hfirst_ok H.out hl t 4).mono ?_
  rintro e _ ⟨rfl, rfl⟩
  go_wp2_with fail
  go_ret
  refine ⟨?_, rfl⟩
  simp
end Go.Proofs.Ytddknmgajacofaa
