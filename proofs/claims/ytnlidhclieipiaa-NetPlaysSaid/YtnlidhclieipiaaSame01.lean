/-
  trothref01.Same: two slices of bytes are the same if they read as the same bytes.
-/
import Derived.Test.YtnlidhclieipiaaRows
import Derived.Test.YtnlidhclieipiaaLib
namespace Go.Proofs.Ytnlidhclieipiaa
open Go Go.RowKit

theorem same_step {la lb : List UInt8} {k : Nat} {x y : UInt8} (hx : la[k]? = some x) (hy : lb[k]? = some y) (h : la.take k = lb.take k) (he : x = y) : la.take (k + 1) = lb.take (k + 1) := by
  rw [List.take_add_one, List.take_add_one, hx, hy, h, he]

set_option maxHeartbeats 1000000 in
theorem same01 (va vb : Value) (la lb : List UInt8) (w : World) (ha : Reads w 1 va la.length (bytesV la)) (hb : Reads w 1 vb lb.length (bytesV lb)) (hn : la.length ≤ 9223372036854775806) :
    Calls Try.prog 29 #[va, vb] w fun e w' => e = .returned (.bool (la == lb)) ∧ ∃ n, w' = w.drewN n := by
  obtain ⟨A, ca, rfl, _⟩ := ha.val
  obtain ⟨B, cb, rfl, _⟩ := hb.val
  by_cases hlen : la.length = lb.length
  · have hne : ((la.length : Int) != (lb.length : Int)) = false := by simp; omega
    have HA := Lib.hid ha
    have HB := Lib.hid hb
    have HL := Lib.hid hlen
    clear ha hb hlen
    go_enter Try.func29, Try.ntmps29
    go_wp2
    go_loopw [5] (fun i wr => ∃ k : Nat, k ≤ la.length ∧ i = .int .i64 k ∧ Hid (la.take k = lb.take k) ∧ ∃ m, wr = w.drewN m) (fun i _ => la.length - (intOf i).toNat)
    case atStart => exact ⟨0, Nat.zero_le _, rfl, by simp [Hid], 0, rfl⟩
    case round =>
      obtain ⟨k, hk, rfl, hsame, m, rfl⟩ := hrel
      by_cases hlt : k < la.length
      · have hltb : k < lb.length := by have := HL.out; omega
        obtain ⟨x, hx⟩ : ∃ x, la[k]? = some x := ⟨_, List.getElem?_eq_getElem hlt⟩
        obtain ⟨y, hy⟩ : ∃ y, lb[k]? = some y := ⟨_, List.getElem?_eq_getElem hltb⟩
        have HX := Lib.hid hx
        have HY := Lib.hid hy
        rcases HA.out.form with ⟨h0, _⟩ | ⟨b1, o1, c1, e1, _, _, _, g1⟩
        · omega
        rcases HB.out.form with ⟨h0, _⟩ | ⟨b2, o2, c2, e2, _, _, _, g2⟩
        · omega
        have g1 := g1 k (byteV x) (by rw [bytesV_get, hx]; rfl)
        have g2 := g2 k (byteV y) (by rw [bytesV_get, hy]; rfl)
        clear hx hy
        injection e1 with e1 e1' e1''
        injection e2 with e2 e2' e2''
        subst e1 e1'' e2 e2''
        unfold byteV at g1 g2
        by_cases hxy : x = y
        · have hT : ((x.toNat : Int) != (y.toNat : Int)) = false := by simp [hxy]
          have HXY := Lib.hid hxy
          clear hxy
          go_wp2
          go_quiet (fail)
          go_wp2
          go_roundw
          case rel => exact ⟨k + 1, by omega, by go_num, same_step HX.out HY.out hsame.out HXY.out, _, rfl⟩
          case measure => simp [intOf]; omega
        · have hT : ((x.toNat : Int) != (y.toNat : Int)) = true := by
            simp
            intro he
            exact hxy (UInt8.toNat_inj.1 (by omega))
          have HXY := Lib.hid hxy
          clear hxy
          go_wp2
          go_quiet (fail)
          go_wp2
          go_ret
          refine ⟨?_, m + nq, World.drewN_drewN _ _ _⟩
          rw [show (la == lb) = false from by
            simp
            rintro rfl
            have h1 := HX.out
            have h2 := HY.out
            rw [h1] at h2
            injection h2 with h2
            exact HXY.out h2]
          rfl
      · go_wp2
        go_ret
        refine ⟨?_, _, rfl⟩
        have he : la = lb := by
          have h1 := hsame.out
          rwa [List.take_of_length_le (by omega), List.take_of_length_le (by have := HL.out; omega)] at h1
        rw [he]
        simp
  · have hne : ((la.length : Int) != (lb.length : Int)) = true := by simp; omega
    have HL := Lib.hid hlen
    clear ha hb hlen
    go_enter Try.func29, Try.ntmps29
    go_wp2
    go_ret
    refine ⟨?_, 0, rfl⟩
    rw [show (la == lb) = false from by
      simp
      rintro rfl
      exact HL.out rfl]
    rfl
end Go.Proofs.Ytnlidhclieipiaa
