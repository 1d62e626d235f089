/-
  Layer 7: locks may be.
-/
import Derived.Test.YtljmmkjdlcfkpaaGreatDoorWm8
import Derived.Test.YtljmmkjdlcfkpaaGreatDoorWbUL
namespace Go.Proofs.YtljmmkjdlcfkpaaGreatDoor
open Go Go.RowKit

set_option maxRecDepth 100000 in
set_option maxHeartbeats 2000000 in
theorem reckey_ok2 (s : Bs) (w : World) : Calls Tryz.prog 104 #[strV s] w (BoolP (keyP s) w) := by
  by_cases h0 : s = []
  · subst h0
    go_enter Tryz.func104, Tryz.ntmps104
    go_wp2_with fail
    go_ret
    exact ⟨by simp [keyP], Upd.refl _ _⟩
  · have hb : (s == []) = false := by
      rw [beq_eq_false_iff_ne]
      exact h0
    by_cases h1 : s.length ≤ 16
    · have h2 : ((s.length : Nat) : Int) ≤ 16 := by omega
      go_enter Tryz.func104, Tryz.ntmps104
      go_wp2_with fail
      go_ret
      exact ⟨by simp [keyP, h0, h1], Upd.refl _ _⟩
    · have h2 : (16 : Int) < ((s.length : Nat) : Int) := by omega
      go_enter Tryz.func104, Tryz.ntmps104
      go_wp2_with fail
      go_ret
      exact ⟨by simp [keyP, h0, h1, h2], Upd.refl _ _⟩
set_option maxRecDepth 100000 in
set_option maxHeartbeats 2000000 in
theorem recvalue_ok2 (h : Bool) (d : Bs) (w : World) : Calls Tryz.prog 105 #[.agg #[.bool h, strV d]] w (BoolP (valueP h d) w) := by
  have hu := (Upd.refl Nowhere w).alloc (.cells #[.bool h, strV d] 31)
  have HU := Lib.hid hu
  clear hu
  by_cases h1 : d.length ≤ 32
  · have h2 : ((d.length : Nat) : Int) ≤ 32 := by omega
    cases h with
    | true =>
      go_enter Tryz.func105, Tryz.ntmps105
      go_wp2_with fail
      go_ret
      exact ⟨by simp [valueP, h1], HU.out⟩
    | false =>
      by_cases h0 : d = []
      · subst h0
        go_enter Tryz.func105, Tryz.ntmps105
        go_wp2_with fail
        go_ret
        exact ⟨by simp [valueP], HU.out⟩
      · have hb : (d == []) = false := by
          rw [beq_eq_false_iff_ne]
          exact h0
        go_enter Tryz.func105, Tryz.ntmps105
        go_wp2_with fail
        go_ret
        exact ⟨by simp [valueP, h0, h1], HU.out⟩
  · have h2 : (32 : Int) < ((d.length : Nat) : Int) := by omega
    go_enter Tryz.func105, Tryz.ntmps105
    go_wp2_with fail
    go_ret
    exact ⟨by simp [valueP, h1], HU.out⟩
set_option maxRecDepth 100000 in
set_option maxHeartbeats 2000000 in
theorem lockmay_ok (x : LockP) (w : World) : Calls Tryz.prog 154 #[elemL x] w (BoolP (lockMay x) w) := by
  unfold elemL
  have hc := reckey_ok2 x.1 (w.alloc (.cells #[strV x.1, .bool x.2] 103))
  have HC := Lib.hid hc
  have HU := Lib.hid ((Upd.refl Nowhere w).alloc (.cells #[strV x.1, .bool x.2] 103))
  clear hc
  go_enter Tryz.func154, Tryz.ntmps154
  go_wp2_with fail
  refine HC.out.mono ?_
  rintro e w2 ⟨rfl, hU2⟩
  have HU2 := Lib.hid (HU.out.same hU2)
  clear hU2
  go_wp2_with fail
  go_ret
  exact ⟨rfl, HU2.out⟩
set_option maxRecDepth 100000 in
set_option maxHeartbeats 2000000 in
theorem lockless_ok (x y : LockP) (w : World) : Calls Tryz.prog 155 #[elemL x, elemL y] w (BoolP (lockLess x y) w) := by
  have HU := Lib.hid (((Upd.refl Nowhere w).alloc (.cells #[strV x.1, .bool x.2] 103)).alloc (.cells #[strV y.1, .bool y.2] 103))
  unfold elemL
  cases hb : Op.bytesLess x.1 y.1 <;>
    (go_enter Tryz.func155, Tryz.ntmps155
     go_wp2_with fail
     go_ret
     exact ⟨by simp [lockLess, lessP, hb], HU.out⟩)
set_option maxRecDepth 100000 in
set_option maxHeartbeats 2000000 in
theorem reclocks_ok {w : World} {v : Value} {L : List LockP} (hE : Els 2 lockC w v L) (hn : L.length ≤ 90000) : Calls Tryz.prog 109 #[v] w (BoolP (locksP L) w) := by
  have hc := risingL_ok hE hn 64 (by omega) lockMay lockLess (fun x _ w' _ => lockmay_ok x w') (fun x _ y _ w' _ => lockless_ok x y w')
  have HC := Lib.hid hc
  have HU := Lib.hid (Upd.refl Nowhere w)
  clear hc
  go_enter Tryz.func109, Tryz.ntmps109
  go_wp2_with fail
  refine HC.out.mono ?_
  rintro e w2 ⟨rfl, hU2⟩
  have HU2 := Lib.hid (HU.out.same hU2)
  clear hU2
  go_wp2_with fail
  go_ret
  exact ⟨rfl, HU2.out⟩
end Go.Proofs.YtljmmkjdlcfkpaaGreatDoor
