/-
  History: cells that are the same.
-/
import Derived.Test.YtlhmbbnjnonmnaaHistE
import Derived.Deep.RegionHeld3
namespace Go.Proofs.Ytlhmbbnjnonmnaa
open Go Go.RowKit

set_option maxHeartbeats 2000000 in
theorem hsame_ok {w : World} {v1 v2 : Value} {L : List (Ky × Vl)} (h1 : CellsE w v1 L) (h2 : CellsE w v2 L) (hl : L.length ≤ 5000) : Calls Try.prog 9 #[v1, v2] w fun r w' => r = .returned (.bool true) ∧ Upd Nowhere w w' := by
  obtain ⟨A1, c1, rfl, _⟩ := h1.val
  obtain ⟨A2, c2, rfl, _⟩ := h2.val
  have H1 := Lib.hid h1
  have H2 := Lib.hid h2
  clear h1 h2
  go_enter Try.func9, Try.ntmps9
  go_wp2_with fail
  go_loopw [5] (fun t wr => ∃ j : Nat, j ≤ L.length ∧ t = .int .i64 j ∧ Upd Nowhere w wr) (fun t _ => L.length - (intOf t).toNat)
  case atStart => exact ⟨0, by omega, rfl, Upd.refl _ _⟩
  case round =>
    obtain ⟨j, hj, rfl, hu⟩ := hrel
    by_cases hlt : j < L.length
    · obtain ⟨⟨kk, vh, vd⟩, hp⟩ : ∃ p, L[j]? = some p := ⟨_, List.getElem?_eq_getElem hlt⟩
      have HC : Hid (∀ W, Upd Nowhere w W → CellsE W (.slice A1 L.length c1) L ∧ CellsE W (.slice A2 L.length c2) L) := Lib.hid fun W hW => ⟨H1.out.upd hW fun _ _ => id, H2.out.upd hW fun _ _ => id⟩
      obtain ⟨b1, o1, _, e1, _, p0, p1, p2⟩ := cell_at (HC.out _ hu).1 hp
      obtain ⟨b2, o2, _, e2, _, q0, q1, q2⟩ := cell_at (HC.out _ hu).2 hp
      cases e1
      cases e2
      have hi : (j : Int) < (L.length : Nat) := by omega
      have HU := Lib.hid hu
      clear hu hp
      go_upto_region 6 with (fail)
      go_cut [25] (fun t wz => t = .bool false ∧ Upd Nowhere w wz)
      case first =>
        go_region_held3 (fun w' => w'.cell? ⟨b1, o1 + j * 3, none⟩ = some (.string ⟨kk.toArray⟩) ∧ w'.cell? ⟨b1, o1 + j * 3 + 1, none⟩ = some (.bool vh) ∧ w'.cell? ⟨b1, o1 + j * 3 + 2, none⟩ = some (.string vd) ∧ w'.cell? ⟨b2, o2 + j * 3, none⟩ = some (.string ⟨kk.toArray⟩) ∧ w'.cell? ⟨b2, o2 + j * 3 + 1, none⟩ = some (.bool vh) ∧ w'.cell? ⟨b2, o2 + j * 3 + 2, none⟩ = some (.string vd)) (exact ⟨p0, p1, p2, q0, q1, q2⟩) (fail)
        all_goals
          go_wp2_with fail
          go_meet
          exact ⟨rfl, HU.out.drew⟩
      case rest =>
        obtain ⟨rfl, hu⟩ := hcut
        have HW := Lib.hid hu
        clear hu p0 p1 p2 q0 q1 q2
        go_wp2_with fail
        go_roundw
        case rel => exact ⟨j + 1, by omega, by go_num, HW.out⟩
        case measure => simp [intOf]; omega
    · have e : ¬ (j : Int) < (L.length : Nat) := by omega
      have HU := Lib.hid hu
      clear hu
      go_wp2_with fail
      go_ret
      exact ⟨rfl, HU.out⟩
end Go.Proofs.Ytlhmbbnjnonmnaa
