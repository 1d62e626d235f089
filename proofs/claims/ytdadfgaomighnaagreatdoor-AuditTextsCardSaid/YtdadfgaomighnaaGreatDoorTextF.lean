/-
  Lines that are the same; which look is less.
-/
import Derived.Test.YtdadfgaomighnaaGreatDoorTextB
namespace Go.Proofs.YtdadfgaomighnaaGreatDoor
open Go Go.RowKit

set_option maxRecDepth 100000
set_option maxHeartbeats 4000000 in
theorem sameLines_ok (v1 v2 : Value) (l : List ByteArray) (w : World) (h1 : Reads w 1 v1 l.length (strV l)) (h2 : Reads w 1 v2 l.length (strV l)) (hn : l.length ≤ 1000) :
    Calls Tryz.prog 5 #[v1, v2] w fun e w' => e = .returned (.bool true) ∧ ∃ n, w' = w.drewN n := by
  obtain ⟨A1, c1, rfl, _⟩ := h1.val
  obtain ⟨A2, c2, rfl, _⟩ := h2.val
  have H1 := Lib.hid h1
  have H2 := Lib.hid h2
  clear h1 h2
  go_enter Tryz.func5, Tryz.ntmps5
  go_wp2
  go_loopw [5] (fun i wr => ∃ k n : Nat, k ≤ l.length ∧ i = .int .i64 k ∧ wr = w.drewN n) (fun i _ => l.length - (intOf i).toNat)
  case atStart => exact ⟨0, 0, Nat.zero_le _, rfl, rfl⟩
  case round =>
    obtain ⟨k, m, hk, rfl, rfl⟩ := hrel
    by_cases hlt : k < l.length
    · obtain ⟨s, hz⟩ : ∃ s, l[k]? = some s := ⟨_, List.getElem?_eq_getElem hlt⟩
      have hs : (strV l)[k]? = some (.string s) := by simp [strV, hz]
      obtain ⟨b1, o1, d1, he1, hb1, hc1⟩ := Reads.addr H1.out (by omega)
      obtain ⟨b2, o2, d2, he2, hb2, hc2⟩ := Reads.addr H2.out (by omega)
      have g1 := hc1 k _ hs
      have g2 := hc2 k _ hs
      injection he1 with e1 _ e3
      injection he2 with f1 _ f3
      subst e1 e3 f1 f3
      clear hc1 hc2 hs hz
      have hi : (k : Int) < (l.length : Int) := by omega
      have hi0 : (0 : Int) ≤ (k : Int) := by omega
      go_wp2_with fail
      go_quiet (fail)
      go_wp2
      go_roundw
      case rel => exact ⟨k + 1, _, by omega, by go_num, rfl⟩
      case measure => simp [intOf]; omega
    · obtain rfl : k = l.length := by omega
      go_wp2
      go_ret
      exact ⟨rfl, _, rfl⟩
end Go.Proofs.YtdadfgaomighnaaGreatDoor
