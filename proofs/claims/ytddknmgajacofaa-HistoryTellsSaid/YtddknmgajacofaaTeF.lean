/-
  SameInts and SameEdges of the same are true.
-/
import Derived.Test.YtddknmgajacofaaTeE
namespace Go.Proofs.Ytddknmgajacofaa
open Go Go.RowKit

set_option maxHeartbeats 2000000 in
theorem sameInts_ok {w : World} {v u : Value} {L : List Int} (h : NumsE w v L) (h' : NumsE w u L) (hl : L.length ≤ 1000) : Calls Try.prog 10 #[v, u] w fun r w' => r = .returned (.bool true) ∧ Upd Nowhere w w' := by
  obtain ⟨A, c, rfl, hc⟩ := h.val
  obtain ⟨B, d, rfl, hd⟩ := h'.val
  have H := Lib.hid h
  have H' := Lib.hid h'
  clear h h'
  have hne : ((L.length : Int) != (L.length : Nat)) = false := by simp
  go_enter Try.func10, Try.ntmps10
  go_wp2_with fail
  go_loopw [5] (fun s wr => ∃ k : Nat, k ≤ L.length ∧ s = .int .i64 k ∧ Upd Nowhere w wr) (fun s _ => L.length - (intOf s).toNat)
  case atStart => exact ⟨0, by omega, rfl, Upd.refl _ _⟩
  case round =>
    obtain ⟨k, hk, rfl, hu⟩ := hrel
    have HU := Lib.hid hu
    clear hu
    by_cases hlt : k < L.length
    · obtain ⟨x, hx⟩ : ∃ x, L[k]? = some x := ⟨_, List.getElem?_eq_getElem hlt⟩
      obtain ⟨b, off, c', he, hb, q0⟩ := num_at (H.out.upd HU.out fun _ _ => id) hx
      obtain ⟨b2, off2, c2, he2, hb2, p0⟩ := num_at (H'.out.upd HU.out fun _ _ => id) hx
      cases he
      cases he2
      have hi : (k : Int) < (L.length : Nat) := by omega
      have hxx : (x != x) = false := by simp
      clear hx
      go_upto_region 6 with (fail)
      go_cut [25] (fun s wz => s = .bool false ∧ Upd Nowhere wr wz)
      case first =>
        go_quiet (fail)
        go_wp2_with fail
        go_meet
        exact ⟨rfl, (Upd.refl Nowhere wr).drewN _⟩
      case rest =>
        obtain ⟨rfl, huq⟩ := hcut
        go_wp2_with fail
        go_roundw
        case rel => exact ⟨k + 1, by omega, by go_num, HU.out.trans (F := Nowhere) huq fun _ _ => id⟩
        case measure => simp [intOf]; omega
    · have hi : ¬ (k : Int) < (L.length : Nat) := by omega
      go_wp2_with fail
      go_ret
      exact ⟨rfl, HU.out⟩
set_option maxHeartbeats 2000000 in
theorem sameEdges_ok {w : World} {v u : Value} {L : Ed} (h : EdE w v L) (h' : EdE w u L) (hl : L.length ≤ 10000) : Calls Try.prog 13 #[v, u] w fun r w' => r = .returned (.bool true) ∧ Upd Nowhere w w' := by
  obtain ⟨A, c, rfl, hc⟩ := h.val
  obtain ⟨B, d, rfl, hd⟩ := h'.val
  have H := Lib.hid h
  have H' := Lib.hid h'
  clear h h'
  have hne : ((L.length : Int) != (L.length : Nat)) = false := by simp
  go_enter Try.func13, Try.ntmps13
  go_wp2_with fail
  go_loopw [5] (fun s wr => ∃ k : Nat, k ≤ L.length ∧ s = .int .i64 k ∧ Upd Nowhere w wr) (fun s _ => L.length - (intOf s).toNat)
  case atStart => exact ⟨0, by omega, rfl, Upd.refl _ _⟩
  case round =>
    obtain ⟨k, hk, rfl, hu⟩ := hrel
    have HU := Lib.hid hu
    clear hu
    by_cases hlt : k < L.length
    · obtain ⟨⟨x, y⟩, hx⟩ : ∃ x, L[k]? = some x := ⟨_, List.getElem?_eq_getElem hlt⟩
      obtain ⟨b, off, c', he, hb, q0, q1⟩ := edge_at (H.out.upd HU.out fun _ _ => id) hx
      obtain ⟨b2, off2, c2, he2, hb2, p0, p1⟩ := edge_at (H'.out.upd HU.out fun _ _ => id) hx
      cases he
      cases he2
      have hi : (k : Int) < (L.length : Nat) := by omega
      have hE := run_equal_pair x y x y
      simp only [and_self, decide_true] at hE
      clear hx
      go_upto_region 6 with (fail)
      go_cut [25] (fun s wz => s = .bool false ∧ Upd Nowhere wr wz)
      case first =>
        go_quiet (fail)
        go_wp2_with fail
        go_meet
        exact ⟨rfl, (Upd.refl Nowhere wr).drewN _⟩
      case rest =>
        obtain ⟨rfl, huq⟩ := hcut
        go_wp2_with fail
        go_roundw
        case rel => exact ⟨k + 1, by omega, by go_num, HU.out.trans (F := Nowhere) huq fun _ _ => id⟩
        case measure => simp [intOf]; omega
    · have hi : ¬ (k : Int) < (L.length : Nat) := by omega
      go_wp2_with fail
      go_ret
      exact ⟨rfl, HU.out⟩
end Go.Proofs.Ytddknmgajacofaa
