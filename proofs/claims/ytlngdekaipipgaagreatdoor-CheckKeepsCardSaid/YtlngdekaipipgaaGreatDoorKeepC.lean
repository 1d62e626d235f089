/-
  check.Keep: the least of what its iterator gives.
-/
import Derived.RangeFuncBox
import Derived.RangeFuncLeaves
import Derived.Shelf.Abstract
import Derived.WalkKit
import Derived.OwnWalkIn
import Derived.TacticsInMore
import Derived.LoopNIn
import Derived.LoopIn
import Derived.Test.YtlngdekaipipgaaGreatDoorKeepA
import Derived.Test.YtlngdekaipipgaaGreatDoorProg
namespace Go.Proofs.YtlngdekaipipgaaGreatDoor
open Go Go.RowKit Go.Shelf

attribute [local go_sem] Oper.semAt_some

/-- What a round keeps: what lies below n₀, and block B. -/
def Kp2 (n₀ B : Nat) (W W' : World) : Prop := Below n₀ W W' ∧ (B < W.heap.size → W'.heap[B]? = W.heap[B]?)
theorem Kp2.refl (n₀ B : Nat) (W : World) : Kp2 n₀ B W W := ⟨Below.refl _ _, fun _ => rfl⟩
theorem Kp2.trans {n₀ B : Nat} {X Y Z : World} (h : Kp2 n₀ B X Y) (k : Kp2 n₀ B Y Z) : Kp2 n₀ B X Z := ⟨h.1.trans k.1, fun hb => (k.2 (Nat.lt_of_lt_of_le hb h.1.size)).trans (h.2 hb)⟩
theorem Kp2.alloc {n₀ B : Nat} {W : World} (h : n₀ ≤ W.heap.size) (o : Obj) : Kp2 n₀ B W (W.alloc o) := ⟨(Below.refl _ _).alloc h _, fun hb => Below.heap_alloc W o B hb⟩
theorem Kp2.set_ {n₀ B : Nat} {W : World} {p : Addr} (h : n₀ ≤ p.block) (hB : B ≠ p.block) (v : Value) : Kp2 n₀ B W (W.setCell p v) := ⟨(Below.refl _ _).setCell h _, fun _ => Below.heap_setCell W p v B hB⟩
theorem Kp2.cell {n₀ B : Nat} {W W' : World} (h : Kp2 n₀ B W W') (hB : B < W.heap.size) : W'.cell? ⟨B, 0, none⟩ = W.cell? ⟨B, 0, none⟩ := World.cell?_of_block (h.2 hB)

set_option maxRecDepth 100000 in
set_option maxHeartbeats 4000000 in
/-- The iterator: the first numbers of the rows that are above 0, then the dirty pages' numbers. -/
theorem firsts1_in (F : Fence) (n : Nat) (h7 : F.fn 143) (hro : F.round = none) (hn : 1 ≤ n) (l B1 B2 n₀ : Nat) (v1 v2 : Value) (L : List RowV) (D : List (Int × Int)) (J Jx : List Int → World → Prop)
    (hY : ∀ pre x W, J pre W → pre.length < L.length + D.length → YieldAt F (n - 1) Tryz.prog l #[.int .i64 x] W fun e W' =>
      (e = .returned (.bool true) ∧ J (pre ++ [x]) W' ∧ Kp2 n₀ B2 W W') ∨ (e = .returned (.bool false) ∧ Jx (pre ++ [x]) W'))
    (hJ : ∀ pre W W', J pre W → Below W.heap.size W W' → J pre W') (hm1 : L.length ≤ 100) (hm2 : D.length ≤ 100)
    (W : World) (hB1 : W.cell? ⟨B1, 0, none⟩ = some v1) (hB2 : W.cell? ⟨B2, 0, none⟩ = some v2) (hb2 : B2 < W.heap.size) (hn0 : n₀ ≤ W.heap.size) (w₀ : World) (hw₀ : w₀.heap.size = n₀) (hw : Below n₀ w₀ W) (h1 : RowsE w₀ v1 L) (h2 : DirtyE w₀ v2 D) (h0 : J [] W) :
    CallsIn F n Tryz.prog 143 #[.func (.yield l) #[] #[], .pointer (some ⟨B1, 0, none⟩), .pointer (some ⟨B2, 0, none⟩)] W fun e W' => (∃ v, e = .returned v) ∧
      ((∃ ys, ys = firstsL L D ∧ J ys W') ∨ (∃ pre, True ∧ Jx pre W')) := by
  obtain ⟨A1, c1, rfl, hc1⟩ := h1.val
  obtain ⟨A2, c2, rfl, hc2⟩ := h2.val
  have HM1 := Lib.hid hm1
  have HM2 := Lib.hid hm2
  have HW0 := Lib.hid hw₀
  clear hw₀
  refine callsIn_of_wp Tryz.func143 rfl h7 ?_ hro
  simp only [Tryz.ntmps143, List.size_toArray, List.length_cons, List.length_nil, Nat.reduceAdd, Nat.reduceSub, Array.replicate_succ, Array.replicate_zero, List.push_toArray, List.append_toArray, List.nil_append, List.cons_append]
  gi_wp2
  gi_loopw [10] (fun i wr => ∃ k : Nat, k ≤ L.length ∧ i = .int .i64 k ∧ J (rowsL (L.take k)) wr ∧ Kp2 n₀ B2 W wr)
    (fun i _ => L.length - (intOf i).toNat)
  case atStart => exact ⟨0, Nat.zero_le _, rfl, h0, Kp2.refl _ _ _⟩
  case round =>
    obtain ⟨k, hk, rfl, hJs, hnx⟩ := hrel
    have hsz := hnx.1.size
    by_cases hlt : k < L.length
    · obtain ⟨r, hz⟩ : ∃ r, L[k]? = some r := ⟨_, List.getElem?_eq_getElem hlt⟩
      have HZ := Lib.hid hz
      have hwr : Below n₀ w₀ wr := hw.trans hnx.1
      obtain ⟨b, off, c, he, hb, g0, g1, g2, g3, g4, g5, g6, g7⟩ := row_at (h1.below (HW0.out ▸ hwr)) hz
      injection he with he1 he2 he3
      subst he1 he3
      have HU := Lib.hid hwr
      have HJ := Lib.hid hJs
      clear hwr hw hz hJs
      have hbW : Kp2 n₀ B2 wr (wr.alloc (.cells #[.int .i64 r.tx, .int .i64 r.st, .int .i64 r.first, .int .i64 r.last, .int .i64 r.undo, .int .i64 r.coord, .slice r.am r.nm r.cm, .slice r.al r.nl r.cl] 74)) := Kp2.alloc (by omega) _
      have hJ1 := hJ _ _ _ HJ.out ((Below.refl wr.heap.size wr).alloc (Nat.le_refl _) (.cells #[.int .i64 r.tx, .int .i64 r.st, .int .i64 r.first, .int .i64 r.last, .int .i64 r.undo, .int .i64 r.coord, .slice r.am r.nm r.cm, .slice r.al r.nl r.cl] 74))
      have hlen := rowsL_len L k
      by_cases hp : 0 < r.first
      · obtain ⟨fn, tmps, assign, body, hy, hR⟩ := hY _ r.first _ hJ1 (by omega)
        have HR := Lib.hid hR
        have HB := Lib.hid hbW
        have HNX := Lib.hid hnx
        clear hR hbW hnx hJ1 hlen
        gi_wp2
        refine HR.out.mono ?_
        rintro e W3 (⟨rfl, hJ3, hk3⟩ | ⟨rfl, hJx3⟩)
        · gi_wp2
          go_roundw
          case rel => exact ⟨k + 1, by omega, by simp, by rw [rowsL_step L HZ.out, if_pos hp]; exact hJ3, (HNX.out.trans HB.out).trans hk3⟩
          case measure => simp [intOf]; omega
        · gi_wp2
          refine bodyPost_ret (results_none rfl _ _ _) rfl ?_
          exact ⟨⟨_, rfl⟩, .inr ⟨_, trivial, hJx3⟩⟩
      · have HB := Lib.hid hbW
        have HNX := Lib.hid hnx
        have HJ1 := Lib.hid hJ1
        clear hbW hnx hJ1 hlen
        gi_wp2
        refine ⟨fun _ h => (by cases h), ?_⟩
        gi_wp2
        go_roundw
        case rel => exact ⟨k + 1, by omega, by simp, by rw [rowsL_step L HZ.out, if_neg (by omega)]; exact HJ1.out, HNX.out.trans HB.out⟩
        case measure => simp [intOf]; omega
    · obtain rfl : k = L.length := by omega
      rw [List.take_length] at hJs
      have hwr0 : Below n₀ w₀ wr := hw.trans hnx.1
      have hB2r : wr.cell? ⟨B2, 0, none⟩ = some (.slice A2 D.length c2) := (hnx.cell hb2).trans hB2
      have HNX0 := Lib.hid hnx
      have HW1 := Lib.hid hwr0
      have HJ0 := Lib.hid hJs
      clear hnx hwr0 hJs hw h0
      gi_wp2
      gi_loopw [27] (fun i wx => ∃ k : Nat, k ≤ D.length ∧ i = .int .i64 k ∧ J (rowsL L ++ (D.take k).map (·.2)) wx ∧ Kp2 n₀ B2 wr wx)
        (fun i _ => D.length - (intOf i).toNat)
      case atStart => exact ⟨0, Nat.zero_le _, rfl, by simpa using HJ0.out, Kp2.refl _ _ _⟩
      case round =>
        obtain ⟨k, hk, rfl, hJs, hnx⟩ := hrel
        have hsz2 := hnx.1.size
        by_cases hlt2 : k < D.length
        · obtain ⟨d, hz⟩ : ∃ d, D[k]? = some d := ⟨_, List.getElem?_eq_getElem hlt2⟩
          have HZ := Lib.hid hz
          have hwx : Below n₀ w₀ wr := HW1.out.trans hnx.1
          obtain ⟨b, off, c, he, hb, g0, g1⟩ := dirty_at (h2.below (HW0.out ▸ hwx)) hz
          injection he with he1 he2 he3
          subst he1 he3
          have hbW : Kp2 n₀ B2 wr (wr.alloc (.cells #[.int .i64 d.1, .int .i64 d.2] 140)) := Kp2.alloc (by omega) _
          have hJ1 := hJ _ _ _ hJs ((Below.refl wr.heap.size wr).alloc (Nat.le_refl _) (.cells #[.int .i64 d.1, .int .i64 d.2] 140))
          have hlen := rowsL_len L L.length
          rw [List.take_length] at hlen
          obtain ⟨fn, tmps, assign, body, hy, hR⟩ := hY _ d.2 _ hJ1 (by simp; omega)
          have HR := Lib.hid hR
          have HB := Lib.hid hbW
          have HNX := Lib.hid hnx
          clear hR hbW hnx hJ1 hlen hwx hz hJs
          gi_wp2
          refine HR.out.mono ?_
          rintro e W3 (⟨rfl, hJ3, hk3⟩ | ⟨rfl, hJx3⟩)
          · gi_wp2
            go_roundw
            case rel => exact ⟨k + 1, by omega, by simp, by rw [dirtyL_step D HZ.out, ← List.append_assoc]; exact hJ3, (HNX.out.trans HB.out).trans hk3⟩
            case measure => simp [intOf]; omega
          · gi_wp2
            refine bodyPost_ret (results_none rfl _ _ _) rfl ?_
            exact ⟨⟨_, rfl⟩, .inr ⟨_, trivial, hJx3⟩⟩
        · obtain rfl : k = D.length := by omega
          rw [List.take_length] at hJs
          have HJ1 := Lib.hid hJs
          clear hJs
          gi_wp2
          go_end0
          exact ⟨⟨_, rfl⟩, .inl ⟨_, rfl, HJ1.out⟩⟩

/-- The iterator's maker. -/
theorem firsts_in (F : Fence) (n : Nat) (h5 : F.fn 66) (hro : F.round = none) (A1 A2 : Option Addr) (n1 c1 n2 c2 : Nat) (w : World) :
    CallsIn F n Tryz.prog 66 #[.slice A1 n1 c1, .slice A2 n2 c2] w fun e w' => e = .returned (.func (.func 143) #[] #[.pointer (some ⟨w.heap.size, 0, none⟩), .pointer (some ⟨w.heap.size + 1, 0, none⟩)]) ∧
      w' = (w.alloc (.cells #[.slice A1 n1 c1] 45)).alloc (.cells #[.slice A2 n2 c2] 46) := by
  refine callsIn_of_wp Tryz.func66 rfl h5 ?_ hro
  simp only [Tryz.ntmps66, List.size_toArray, List.length_cons, List.length_nil, Nat.reduceAdd, Nat.reduceSub, Array.replicate_succ, Array.replicate_zero, List.push_toArray, List.append_toArray, List.nil_append, List.cons_append]
  gi_wp2
  go_ret
  exact ⟨rfl, rfl⟩

/-- What the iterator gives. -/
theorem firsts_stops (F : Fence) (n : Nat) (h7 : F.fn 143) (hro : F.round = none) (hn : 1 ≤ n) (n₀ B1 B2 : Nat) (v1 v2 : Value) (L : List RowV) (D : List (Int × Int)) (hm1 : L.length ≤ 100) (hm2 : D.length ≤ 100) (w₀ w : World) (hb1 : B1 < w.heap.size) (hb2 : B2 < w.heap.size) (hw₀ : w₀.heap.size = n₀) (hw : Below n₀ w₀ w)
    (hc1 : w.cell? ⟨B1, 0, none⟩ = some v1) (hc2 : w.cell? ⟨B2, 0, none⟩ = some v2) (h1 : RowsE w₀ v1 L) (h2 : DirtyE w₀ v2 D) :
    SeqStopsK F n Tryz.prog 143 #[.pointer (some ⟨B1, 0, none⟩), .pointer (some ⟨B2, 0, none⟩)] (fun x : Int => #[Value.int .i64 x]) (Kp2 n₀ B2) (fun ys => ys = firstsL L D) (fun _ => True) (L.length + D.length) w := fun l J Jx W hW hJ _ hY h0 => by
  refine firsts1_in F n h7 hro hn l B1 B2 n₀ v1 v2 L D J Jx hY (fun pre W1 W2 hj hb => hJ pre W1 W2 none hj ⟨hb.os, hb.tape, hb.output, hb.size, fun k hk _ => hb.block k hk⟩ (fun r e => by cases e)) hm1 hm2 W ?_ ?_ (Nat.lt_of_lt_of_le hb2 hW.size) (hw₀ ▸ Nat.le_trans hw.size hW.size) w₀ hw₀ (hw.trans (hW.mono (hw₀ ▸ hw.size))) h1 h2 h0
  · exact (hW.cell (p := ⟨B1, 0, none⟩) hb1).trans hc1
  · exact (hW.cell (p := ⟨B2, 0, none⟩) hb2).trans hc2
end Go.Proofs.YtlngdekaipipgaaGreatDoor
