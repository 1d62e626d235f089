/-
  Whether a mix may be: load.May.
-/
import Derived.Test.YtlboobboacjnmaaDoorLoadE
namespace Go.Proofs.YtlboobboacjnmaaDoor
open Go Go.RowKit

/-- A number, its least, its most. -/
def limOf (m : MixD) : Nat → Int × Int × Int
  | 0 => (m.nodes, 1, 8)
  | 1 => (m.txs, 0, 50)
  | 2 => (m.steps, 0, 20)
  | 3 => (m.keys, 1, 100)
  | 4 => (m.writes, 0, 100)
  | 5 => (m.quits, 0, 100)
  | 6 => (m.drops, 0, 100)
  | _ => (m.falls, 0, 100)
def limIn (m : MixD) (k : Nat) : Bool := inR (limOf m k).1 (limOf m k).2.1 (limOf m k).2.2
def limC (m : MixD) : Array Value := #[.int .i64 m.nodes, .int .i64 1, .int .i64 8, .int .i64 m.txs, .int .i64 0, .int .i64 50, .int .i64 m.steps, .int .i64 0, .int .i64 20, .int .i64 m.keys, .int .i64 1, .int .i64 100, .int .i64 m.writes, .int .i64 0, .int .i64 100, .int .i64 m.quits, .int .i64 0, .int .i64 100, .int .i64 m.drops, .int .i64 0, .int .i64 100, .int .i64 m.falls, .int .i64 0, .int .i64 100]
theorem limC_get (m : MixD) (k : Nat) (hk : k < 8) : (limC m)[k * 3]? = some (.int .i64 (limOf m k).1) ∧ (limC m)[k * 3 + 1]? = some (.int .i64 (limOf m k).2.1) ∧ (limC m)[k * 3 + 2]? = some (.int .i64 (limOf m k).2.2) := by
  rcases (by omega : k = 0 ∨ k = 1 ∨ k = 2 ∨ k = 3 ∨ k = 4 ∨ k = 5 ∨ k = 6 ∨ k = 7) with rfl | rfl | rfl | rfl | rfl | rfl | rfl | rfl <;> exact ⟨rfl, rfl, rfl⟩
theorem may_all (m : MixD) (h : ∀ j, j < 8 → limIn m j = true) : mayB m = true := by
  have h0 := h 0 (by omega); have h1 := h 1 (by omega); have h2 := h 2 (by omega); have h3 := h 3 (by omega); have h4 := h 4 (by omega); have h5 := h 5 (by omega); have h6 := h 6 (by omega); have h7 := h 7 (by omega)
  simp only [limIn, limOf] at h0 h1 h2 h3 h4 h5 h6 h7
  simp [mayB, h0, h1, h2, h3, h4, h5, h6, h7]
theorem may_none (m : MixD) (k : Nat) (hk : k < 8) (h : limIn m k = false) : mayB m = false := by
  rcases (by omega : k = 0 ∨ k = 1 ∨ k = 2 ∨ k = 3 ∨ k = 4 ∨ k = 5 ∨ k = 6 ∨ k = 7) with rfl | rfl | rfl | rfl | rfl | rfl | rfl | rfl <;> simp only [limIn, limOf] at h <;> simp [mayB, h]
set_option maxHeartbeats 4000000 in
set_option maxRecDepth 100000 in
theorem lmay_ok (m : MixD) (w : World) : Calls Tryd.prog 6 #[m.val] w fun e w' => e = .returned (.bool (mayB m)) ∧ Upd Nowhere w w' := by
  have hb := (Blk.new w 24 #[.int .i64 m.nodes, .int .i64 m.txs, .int .i64 m.steps, .int .i64 m.keys, .int .i64 m.writes, .int .i64 m.quits, .int .i64 m.drops, .int .i64 m.falls]).cell
  unfold MixD.val
  go_enter Tryd.func6, Tryd.ntmps6
  go_wp2_with fail
  have HB0 := Lib.hid (Blk.new (w.alloc (.cells #[.int .i64 m.nodes, .int .i64 m.txs, .int .i64 m.steps, .int .i64 m.keys, .int .i64 m.writes, .int .i64 m.quits, .int .i64 m.drops, .int .i64 m.falls] 24)) 49 (limC m))
  clear hb
  go_loopw [31] (fun t wr => ∃ k : Nat, k ≤ 8 ∧ t = .int .i64 k ∧ (∀ j, j < k → limIn m j = true) ∧ Upd Nowhere w wr ∧ Blk wr (w.heap.size + 1) 49 (limC m)) (fun t _ => 8 - (intOf t).toNat)
  case atStart => exact ⟨0, by omega, rfl, fun _ h => absurd h (by omega), ((Upd.refl _ w).alloc _).alloc _, by have := HB0.out; rwa [World.size_alloc] at this⟩
  case round =>
    obtain ⟨k, hk, rfl, hok, hU, hB⟩ := hrel
    by_cases hlt : k < 8
    · obtain ⟨q0, q1, q2⟩ := limC_get m k hlt
      have c0 := (hB.cell (k * 3)).trans q0
      have c1 := (hB.cell (k * 3 + 1)).trans q1
      have c2 := (hB.cell (k * 3 + 2)).trans q2
      have hi : (k : Int) < 8 := by omega
      have HU := Lib.hid (hU.alloc (.cells #[.int .i64 (limOf m k).1, .int .i64 (limOf m k).2.1, .int .i64 (limOf m k).2.2] 49))
      have HB := Lib.hid (hB.alloc (.cells #[.int .i64 (limOf m k).1, .int .i64 (limOf m k).2.1, .int .i64 (limOf m k).2.2] 49))
      have HOK := Lib.hid hok
      have HIN : Hid (limIn m k = inR (limOf m k).1 (limOf m k).2.1 (limOf m k).2.2) := Lib.hid rfl
      have HNO := Lib.hid (may_none m k hlt)
      clear hU hB q0 q1 q2 hok HB0
      generalize (limOf m k).1 = n at *
      generalize (limOf m k).2.1 = a at *
      generalize (limOf m k).2.2 = b at *
      by_cases h1 : n < a
      · have h2 : decide (a ≤ n) = false := decide_eq_false (by omega)
        go_wp2_with fail
        go_ret
        exact ⟨by rw [HNO.out (by rw [HIN.out]; simp [inR, h2])]; rfl, HU.out⟩
      · by_cases h3 : b < n
        · have h2 : decide (n ≤ b) = false := decide_eq_false (by omega)
          go_wp2_with fail
          go_ret
          exact ⟨by rw [HNO.out (by rw [HIN.out]; simp [inR, h2])]; rfl, HU.out⟩
        · have h2 : inR n a b = true := by simp only [inR, Bool.and_eq_true, decide_eq_true_eq]; omega
          have HT := Lib.hid h2
          clear h2
          go_wp2_with fail
          go_roundw
          case rel =>
            refine ⟨k + 1, by omega, by go_num, fun j hj => ?_, HU.out, HB.out⟩
            rcases (by omega : j < k ∨ j = k) with h | rfl
            · exact HOK.out j h
            · rw [HIN.out]; exact HT.out
          case measure => simp [intOf]; omega
    · have e : ¬ (k : Int) < 8 := by omega
      obtain rfl : k = 8 := by omega
      have HM := Lib.hid (may_all m hok)
      have HU := Lib.hid hU
      clear hok hU hB HB0
      go_wp2_with fail
      go_ret
      exact ⟨by rw [HM.out]; rfl, HU.out⟩
end Go.Proofs.YtlboobboacjnmaaDoor
