/-
  The program's Victim: is there a ring?
-/
import Derived.Test.YtddknmgajacofaaTeO
namespace Go.Proofs.Ytddknmgajacofaa
open Go Go.RowKit

/-- A number, and a flag that tells p. -/
structure FlagN (r : Ending) (p : Prop) : Prop where
  out : ∃ n b, r = .returned (.tuple #[.int .i64 n, .bool b]) ∧ (b = true ↔ p)
set_option maxHeartbeats 4000000 in
set_option maxRecDepth 100000 in
theorem victim_ok {w : World} {v : Value} {E : Ed} (h : EdE w v E) (hl : E.length ≤ 3600) : Calls Try.prog 20 #[v] w fun r w' => FlagN r (Cyc E) ∧ Upd Nowhere w w' := by
  have H := Lib.hid h
  clear h
  go_enter Try.func20, Try.ntmps20
  go_wp2_with fail
  refine (rings_ok H.out hl).mono ?_
  rintro r w1 ⟨b, f, rfl, hm, hC, hu1⟩
  obtain ⟨w3, cnt0, hrun0, hR0, hU0, hsz0⟩ := hm.range (P := Try.prog) (t := 62) Try.underlying62
  have HRUN := Lib.hid hrun0
  have HR0 := Lib.hid hR0
  have HU3 := Lib.hid (hu1.trans (F := Nowhere) hU0 fun _ _ => id)
  have HSZ := Lib.hid hu1.size
  have HC := Lib.hid hC
  clear hm hC hu1 hrun0 hR0 hU0 hsz0
  go_wp2_with (at_range; refine wpList_range_run rfl _ _ rfl rfl HRUN.out ?_)
  go_frame
  go_loopw [4, 5] (fun s t wr => ∃ (left : Int → Prop) (cnt : Nat) (bv : Int) (iv : Bool), s = .int .i64 bv ∧ t = .bool iv ∧ RangeIs encI wr w1.heap.size b f left cnt ∧ (iv = true ↔ ∃ x, f x ≠ none ∧ ¬ left x) ∧ (∀ x, left x → f x ≠ none) ∧ Upd Nowhere w wr) (fun _ _ wr => wr.rangeLeft b w1.heap.size)
  case atStart => exact ⟨_, cnt0, 0, false, rfl, rfl, HR0.out, by simp, fun x hx => hx, HU3.out⟩
  case round =>
    obtain ⟨left, cnt, bv, iv, rfl, rfl, hR, hI, hL, hu⟩ := hrel
    have HR := Lib.hid hR
    have HI := Lib.hid hI
    have HL := Lib.hid hL
    have HU := Lib.hid hu
    clear hR hI hL hu
    go_wp2_with (at_next; refine wpList_next_is KI rfl _ rfl rfl HR.out ?_ ?_)
    · intro h0 hno
      have HF : Hid (iv = true ↔ Cyc E) := Lib.hid (by
        rw [HI.out, ← HC.out]
        exact ⟨fun ⟨x, h, _⟩ => ⟨x, h⟩, fun ⟨x, h⟩ => ⟨x, h, hno x⟩⟩)
      clear hno
      go_wp2_with fail
      go_ret2
      exact ⟨⟨_, _, rfl, HF.out⟩, HU.out⟩
    · intro x vx wn cnt1 hfx hlx hR1 hlt hu1 hsz1 hen
      have HR1 := Lib.hid hR1
      have HUN := Lib.hid (HU.out.trans (F := Nowhere) hu1 fun k hk e => by have h1 := HSZ.out; omega)
      have HLT := Lib.hid hlt
      have HX : Hid (∃ y, f y ≠ none ∧ ¬ (left y ∧ y ≠ x)) := Lib.hid ⟨x, by rw [hfx]; simp, fun h => h.2 rfl⟩
      have HL1 : Hid (∀ y, (left y ∧ y ≠ x) → f y ≠ none) := Lib.hid fun y hy => HL.out y hy.1
      clear hfx hlx hR1 hlt hu1 hsz1
      cases iv with
      | false =>
        go_wp2_with fail
        try go_frame
        go_roundw
        case rel => exact ⟨_, cnt1, x, true, rfl, rfl, HR1.out, ⟨fun _ => HX.out, fun _ => rfl⟩, HL1.out, HUN.out⟩
        case measure =>
          rw [HR1.out.left_eq, HR.out.left_eq]
          exact HLT.out
      | true =>
        by_cases hg : bv < x
        · go_wp2_with fail
          try go_frame
          go_roundw
          case rel => exact ⟨_, cnt1, x, true, rfl, rfl, HR1.out, ⟨fun _ => HX.out, fun _ => rfl⟩, HL1.out, HUN.out⟩
          case measure =>
            rw [HR1.out.left_eq, HR.out.left_eq]
            exact HLT.out
        · go_wp2_with fail
          try go_frame
          go_roundw
          case rel => exact ⟨_, cnt1, bv, true, rfl, rfl, HR1.out, ⟨fun _ => HX.out, fun _ => rfl⟩, HL1.out, HUN.out⟩
          case measure =>
            rw [HR1.out.left_eq, HR.out.left_eq]
            exact HLT.out
end Go.Proofs.Ytddknmgajacofaa
