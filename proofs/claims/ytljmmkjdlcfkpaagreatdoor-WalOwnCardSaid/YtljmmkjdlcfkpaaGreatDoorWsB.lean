/-
  The law's scrawl: it writes into a record's own lists alone.
-/
import Derived.Test.YtljmmkjdlcfkpaaGreatDoorWrD
namespace Go.Proofs.YtljmmkjdlcfkpaaGreatDoor
open Go Go.RowKit

/-- Blocks made since B, of numbers, locks or rows. -/
def ScrF (B : Nat) (w : World) (k : Nat) : Prop := B ≤ k ∧ ∃ cs t, w.heap[k]? = some (.cells cs t (0, 0)) ∧ (t = 3 ∨ t = 103 ∨ t = 105)
theorem ScrF.logs {bz B : Nat} {w : World} {k : Nat} (h : ScrF B w k) : ¬ LogF bz w k := by
  rintro ⟨_, o, h1, h2⟩
  obtain ⟨_, cs, t, h3, h4⟩ := h
  rw [h3] at h1
  injection h1 with h1
  subst h1
  rcases h4 with rfl | rfl | rfl
  · rw [show logTy (.cells cs 3 (0, 0)) = false from rfl] at h2; cases h2
  · rw [show logTy (.cells cs 103 (0, 0)) = false from rfl] at h2; cases h2
  · rw [show logTy (.cells cs 105 (0, 0)) = false from rfl] at h2; cases h2
theorem ScrF.noU8 {B : Nat} (w : World) : NoU8 (ScrF B w) w := by
  rintro k ⟨_, cs, t, h3, h4⟩ ⟨cs', fz, h5⟩
  rw [h3] at h5
  injection h5 with h5
  injection h5 with _ h5 _
  rcases h4 with rfl | rfl | rfl <;> exact absurd h5 (by decide)
theorem OwnR.slen {TE : TypeId} {α : Type} {cells : α → List Value} {sz B : Nat} {w : World} {s : SlT} {L : List α} (h : OwnR TE cells sz B w (slV s) L) : s.2.1 = L.length := by
  obtain ⟨A, c, e, _⟩ := h.els.val
  unfold slV at e
  injection e
/-- A slice whose block is wide enough, and may be written. -/
def Wide (w : World) (A : Option Addr) (t n sz : Nat) : Prop := 0 < n → ∃ g cs, A = some ⟨g, 0, none⟩ ∧ w.heap[g]? = some (.cells cs t (0, 0)) ∧ n * sz ≤ cs.size
theorem OwnR.wide {TE : TypeId} {α : Type} {cells : α → List Value} {sz B : Nat} {w : World} {s : SlT} {L : List α} (h : OwnR TE cells sz B w (slV s) L) : Wide w s.1 TE s.2.1 sz ∧ (∀ g, s.1 = some ⟨g, 0, none⟩ → B ≤ g) := by
  obtain ⟨A, n, c⟩ := s
  refine ⟨fun h0 => ?_, fun g hg => h.new g (by simp only at hg; subst hg; rfl)⟩
  rcases h.row.2 with ⟨e, _⟩ | ⟨g, cap, cur, e, _, hh, hn, _, hs, _⟩
  · unfold slV at e
    injection e with e1 e2 e3
    omega
  · unfold slV at e
    injection e with e1 e2 e3
    exact ⟨g, cur, e1, hh, by rw [hs, e2]; exact Nat.mul_le_mul_right _ hn⟩
theorem Wide.set {w : World} {A : Option Addr} {t n sz : Nat} (h : Wide w A t n sz) (g off : Nat) (u : Value) : Wide (w.setCell ⟨g, off, none⟩ u) A t n sz := fun h0 => by
  obtain ⟨g', cs, e, hh, hs⟩ := h h0
  by_cases hg : g' = g
  · subst hg
    exact ⟨g', cs.setIfInBounds off u, e, by simp [World.setCell, Array.getElem?_modify, hh], by simpa using hs⟩
  · exact ⟨g', cs, e, (Below.heap_setCell w ⟨g, off, none⟩ u g' hg).trans hh, hs⟩
theorem Wide.upd {w w' : World} {A : Option Addr} {t n sz : Nat} (h : Wide w A t n sz) (hu : Upd Nowhere w w') : Wide w' A t n sz := fun h0 => by
  obtain ⟨g', cs, e, hh, hs⟩ := h h0
  exact ⟨g', cs, e, (hu.block g' (lt_of_heap hh) id).trans hh, hs⟩
theorem Wide.at_ {w : World} {A : Option Addr} {t n sz k j : Nat} (h : Wide w A t n sz) (hk : k < n) (hj : j < sz) : ∃ g u, A = some ⟨g, 0, none⟩ ∧ w.cell? ⟨g, k * sz + j, none⟩ = some u ∧ w.frozen? ⟨g, k * sz + j, none⟩ = false ∧ (∃ cs, w.heap[g]? = some (.cells cs t (0, 0))) := by
  obtain ⟨g, cs, e, hh, hs⟩ := h (by omega)
  have hlt : k * sz + j < cs.size := by
    have : (k + 1) * sz ≤ n * sz := Nat.mul_le_mul_right _ hk
    rw [Nat.succ_mul] at this
    omega
  exact ⟨g, cs[k * sz + j], e, by simp [World.cell?, hh, hlt], by simp [World.frozen?, hh], cs, hh⟩
structure ScrS (B bx : Nat) (a1 a2 a3 a6 : Option Addr) (n1 n2 n3 n6 : Nat) (cs : Array Value) (w wr : World) : Prop where
  box : Blk wr bx 38 cs
  l1 : Wide wr a1 3 n1 1
  l2 : Wide wr a2 103 n2 2
  l3 : Wide wr a3 105 n3 8
  l6 : Wide wr a6 3 n6 1
  upd : Upd (ScrF B w) w wr
theorem ScrS.set {B bx : Nat} {a1 a2 a3 a6 : Option Addr} {n1 n2 n3 n6 : Nat} {cs : Array Value} {w wr : World} (h : ScrS B bx a1 a2 a3 a6 n1 n2 n3 n6 cs w wr) {g off : Nat} (u : Value) (hg : ScrF B w g) (hb : g ≠ bx) : ScrS B bx a1 a2 a3 a6 n1 n2 n3 n6 cs w (wr.setCell ⟨g, off, none⟩ u) :=
  ⟨h.box.far (p := ⟨g, off, none⟩) (fun e => hb e.symm) u, h.l1.set _ _ _, h.l2.set _ _ _, h.l3.set _ _ _, h.l6.set _ _ _, h.upd.setCell (fun _ => hg) u⟩
set_option maxRecDepth 100000 in
set_option maxHeartbeats 4000000 in
theorem scrawl_ok {B : Nat} (x : RecP) (s : Sls) (w : World) (hN : RecN B w x s) (m1 : x.mem.length ≤ 90000) (m2 : x.loc.length ≤ 90000) (m3 : x.row.length ≤ 90000) (m6 : x.pas.length ≤ 90000) : Calls Tryz.prog 17 #[.agg (x.rv s).cells.toArray] w fun e w' => e = .returned (.tuple #[]) ∧ Upd (ScrF B w) w w' := by
  obtain ⟨rs, hr1, hr2, hr3⟩ := hN.row
  have l1 := hN.mem.wide
  have l2 := hN.loc.wide
  have l3 := hr1.wide
  have l6 := hN.pas.wide
  have i1 : (s.mem.2.1 : Int) ≤ 90000 := by have := hN.mem.slen; omega
  have i2 : (s.loc.2.1 : Int) ≤ 90000 := by have := hN.loc.slen; omega
  have i3 : (s.row.2.1 : Int) ≤ 90000 := by have := hr1.slen; rw [← hr2, List.length_map] at m3; omega
  have i6 : (s.pas.2.1 : Int) ≤ 90000 := by have := hN.pas.slen; omega
  clear hN hr1 hr2 hr3 m1 m2 m3 m6
  obtain ⟨kind, tx, prev, next, key, oh, od, nh, nd, coord, mem, loc, row, dir, dee, pas⟩ := x
  obtain ⟨⟨a1, n1, c1⟩, ⟨a2, n2, c2⟩, ⟨a3, n3, c3⟩, ⟨a4, n4, c4⟩, ⟨a5, n5, c5⟩, ⟨a6, n6, c6⟩⟩ := s
  simp only at l1 l2 l3 l6 i1 i2 i3 i6
  show Calls Tryz.prog 17 #[.agg #[.int .i64 kind, .int .i64 tx, .int .i64 prev, .int .i64 next, strV key, .bool oh, strV od, .bool nh, strV nd, .int .i64 coord, .slice a1 n1 c1, .slice a2 n2 c2, .slice a3 n3 c3, .slice a4 n4 c4, .slice a5 n5 c5, .slice a6 n6 c6]] w _
  have hb := Blk.new w 38 #[.int .i64 kind, .int .i64 tx, .int .i64 prev, .int .i64 next, strV key, .bool oh, strV od, .bool nh, strV nd, .int .i64 coord, .slice a1 n1 c1, .slice a2 n2 c2, .slice a3 n3 c3, .slice a4 n4 c4, .slice a5 n5 c5, .slice a6 n6 c6]
  have hu := (Upd.refl Nowhere w).alloc (.cells #[.int .i64 kind, .int .i64 tx, .int .i64 prev, .int .i64 next, strV key, .bool oh, strV od, .bool nh, strV nd, .int .i64 coord, .slice a1 n1 c1, .slice a2 n2 c2, .slice a3 n3 c3, .slice a4 n4 c4, .slice a5 n5 c5, .slice a6 n6 c6] 38)
  have hF : ∀ (A : Option Addr) (t n sz : Nat), Wide w A t n sz → (t = 3 ∨ t = 103 ∨ t = 105) → (∀ g, A = some ⟨g, 0, none⟩ → B ≤ g) → 0 < n → ∃ g, A = some ⟨g, 0, none⟩ ∧ ScrF B w g ∧ g ≠ w.heap.size := fun A t n sz h ht hB h0 => by
    obtain ⟨g, cs, e, hh, _⟩ := h h0
    have := lt_of_heap hh
    exact ⟨g, e, ⟨hB g e, cs, t, hh, ht⟩, by omega⟩
  have F1 := hF a1 _ n1 1 l1.1 (.inl rfl) l1.2
  have F2 := hF a2 _ n2 2 l2.1 (.inr (.inl rfl)) l2.2
  have F3 := hF a3 _ n3 8 l3.1 (.inr (.inr rfl)) l3.2
  have F6 := hF a6 _ n6 1 l6.1 (.inl rfl) l6.2
  have hS : ScrS B w.heap.size a1 a2 a3 a6 n1 n2 n3 n6 #[.int .i64 kind, .int .i64 tx, .int .i64 prev, .int .i64 next, strV key, .bool oh, strV od, .bool nh, strV nd, .int .i64 coord, .slice a1 n1 c1, .slice a2 n2 c2, .slice a3 n3 c3, .slice a4 n4 c4, .slice a5 n5 c5, .slice a6 n6 c6] w (w.alloc (.cells #[.int .i64 kind, .int .i64 tx, .int .i64 prev, .int .i64 next, strV key, .bool oh, strV od, .bool nh, strV nd, .int .i64 coord, .slice a1 n1 c1, .slice a2 n2 c2, .slice a3 n3 c3, .slice a4 n4 c4, .slice a5 n5 c5, .slice a6 n6 c6] 38)) := ⟨hb, l1.1.upd hu, l2.1.upd hu, l3.1.upd hu, l6.1.upd hu, hu.any⟩
  have b8 := hb.cell 10
  have HS := Lib.hid hS
  have F1 := Lib.hid F1
  have F2 := Lib.hid F2
  have F3 := Lib.hid F3
  have F6 := Lib.hid F6
  clear l1 l2 l3 l6 hb hu hF hS
  simp only [List.getElem?_toArray, List.getElem?_cons_zero, List.getElem?_cons_succ] at b8
  clear b8
  go_enter Tryz.func17, Tryz.ntmps17
  go_upto_region 1 with (fail)
  generalize w.alloc (.cells #[.int .i64 kind, .int .i64 tx, .int .i64 prev, .int .i64 next, strV key, .bool oh, strV od, .bool nh, strV nd, .int .i64 coord, .slice a1 n1 c1, .slice a2 n2 c2, .slice a3 n3 c3, .slice a4 n4 c4, .slice a5 n5 c5, .slice a6 n6 c6] 38) = w1 at *
  generalize hbx : w.heap.size = bx at *
  go_wp2_with fail
  go_loopw [2] (fun t wr => ∃ k : Nat, t = .int .i64 (k : Int) ∧ k ≤ n1 ∧ ScrS B bx a1 a2 a3 a6 n1 n2 n3 n6 #[.int .i64 kind, .int .i64 tx, .int .i64 prev, .int .i64 next, strV key, .bool oh, strV od, .bool nh, strV nd, .int .i64 coord, .slice a1 n1 c1, .slice a2 n2 c2, .slice a3 n3 c3, .slice a4 n4 c4, .slice a5 n5 c5, .slice a6 n6 c6] w wr) (fun t _ => n1 - (intOf t).toNat)
  case atStart => exact ⟨0, rfl, Nat.zero_le _, HS.out⟩
  case round =>
    obtain ⟨k, rfl, hk, hS⟩ := hrel
    have cc := hS.box.cell 10
    simp only [List.getElem?_toArray, List.getElem?_cons_zero, List.getElem?_cons_succ] at cc
    by_cases hlt : k < n1
    · obtain ⟨g, u, e, hc, hf, _⟩ := hS.l1.at_ hlt (j := 0) (by omega)
      obtain ⟨g2, e2, hg2, hne⟩ := F1.out (by omega)
      rw [e] at e2
      cases e2
      simp only [Nat.add_zero, Nat.mul_one] at hc hf
      subst e
      have hi : (k : Int) < ((n1 : Nat) : Int) := by omega
      have HS2 := Lib.hid (hS.set (off := k) (.int .i64 77) hg2 hne)
      have HK := Lib.hid hlt
      clear hS hg2 hlt hk
      go_wp2_with fail
      go_roundw
      case rel => exact ⟨k + 1, by go_num, HK.out, HS2.out⟩
      case measure =>
        have := HK.out
        simp only [intOf]
        omega
    · obtain rfl : n1 = k := by omega
      have HS5 := Lib.hid hS
      clear hS hk
      go_wp2_with fail
      go_loopw [3] (fun t wr => ∃ k : Nat, t = .int .i64 (k : Int) ∧ k ≤ n2 ∧ ScrS B bx a1 a2 a3 a6 n1 n2 n3 n6 #[.int .i64 kind, .int .i64 tx, .int .i64 prev, .int .i64 next, strV key, .bool oh, strV od, .bool nh, strV nd, .int .i64 coord, .slice a1 n1 c1, .slice a2 n2 c2, .slice a3 n3 c3, .slice a4 n4 c4, .slice a5 n5 c5, .slice a6 n6 c6] w wr) (fun t _ => n2 - (intOf t).toNat)
      case atStart => exact ⟨0, rfl, Nat.zero_le _, HS5.out⟩
      case round =>
        obtain ⟨k, rfl, hk, hS⟩ := hrel
        have cc := hS.box.cell 11
        simp only [List.getElem?_toArray, List.getElem?_cons_zero, List.getElem?_cons_succ] at cc
        by_cases hlt : k < n2
        · obtain ⟨g, u, e, hc, hf, _⟩ := hS.l2.at_ hlt (j := 0) (by omega)
          obtain ⟨g2, e2, hg2, hne⟩ := F2.out (by omega)
          rw [e] at e2
          cases e2
          simp only [Nat.add_zero] at hc hf
          subst e
          have hi : (k : Int) < ((n2 : Nat) : Int) := by omega
          have HS2 := Lib.hid (hS.set (off := k * 2) (.string ⟨#[63]⟩) hg2 hne)
          have HK := Lib.hid hlt
          clear hS hg2 hlt hk
          go_wp2_with fail
          go_roundw
          case rel => exact ⟨k + 1, by go_num, HK.out, HS2.out⟩
          case measure =>
            have := HK.out
            simp only [intOf]
            omega
        · obtain rfl : n2 = k := by omega
          have HS6 := Lib.hid hS
          clear hS hk
          go_wp2_with fail
          go_loopw [4] (fun t wr => ∃ k : Nat, t = .int .i64 (k : Int) ∧ k ≤ n6 ∧ ScrS B bx a1 a2 a3 a6 n1 n2 n3 n6 #[.int .i64 kind, .int .i64 tx, .int .i64 prev, .int .i64 next, strV key, .bool oh, strV od, .bool nh, strV nd, .int .i64 coord, .slice a1 n1 c1, .slice a2 n2 c2, .slice a3 n3 c3, .slice a4 n4 c4, .slice a5 n5 c5, .slice a6 n6 c6] w wr) (fun t _ => n6 - (intOf t).toNat)
          case atStart => exact ⟨0, rfl, Nat.zero_le _, HS6.out⟩
          case round =>
            obtain ⟨k, rfl, hk, hS⟩ := hrel
            have cc := hS.box.cell 15
            simp only [List.getElem?_toArray, List.getElem?_cons_zero, List.getElem?_cons_succ] at cc
            by_cases hlt : k < n6
            · obtain ⟨g, u, e, hc, hf, _⟩ := hS.l6.at_ hlt (j := 0) (by omega)
              obtain ⟨g2, e2, hg2, hne⟩ := F6.out (by omega)
              rw [e] at e2
              cases e2
              simp only [Nat.add_zero, Nat.mul_one] at hc hf
              subst e
              have hi : (k : Int) < ((n6 : Nat) : Int) := by omega
              have HS2 := Lib.hid (hS.set (off := k) (.int .i64 77) hg2 hne)
              have HK := Lib.hid hlt
              clear hS hg2 hlt hk
              go_wp2_with fail
              go_roundw
              case rel => exact ⟨k + 1, by go_num, HK.out, HS2.out⟩
              case measure =>
                have := HK.out
                simp only [intOf]
                omega
            · obtain rfl : n6 = k := by omega
              have HS7 := Lib.hid hS
              clear hS hk
              go_wp2_with fail
              go_loopw [5] (fun t wr => ∃ k : Nat, t = .int .i64 (k : Int) ∧ k ≤ n3 ∧ ScrS B bx a1 a2 a3 a6 n1 n2 n3 n6 #[.int .i64 kind, .int .i64 tx, .int .i64 prev, .int .i64 next, strV key, .bool oh, strV od, .bool nh, strV nd, .int .i64 coord, .slice a1 n1 c1, .slice a2 n2 c2, .slice a3 n3 c3, .slice a4 n4 c4, .slice a5 n5 c5, .slice a6 n6 c6] w wr) (fun t _ => n3 - (intOf t).toNat)
              case atStart => exact ⟨0, rfl, Nat.zero_le _, HS7.out⟩
              case round =>
                obtain ⟨k, rfl, hk, hS⟩ := hrel
                have cc := hS.box.cell 12
                simp only [List.getElem?_toArray, List.getElem?_cons_zero, List.getElem?_cons_succ] at cc
                by_cases hlt : k < n3
                · obtain ⟨g, u, e, hc, hf, _⟩ := hS.l3.at_ hlt (j := 0) (by omega)
                  obtain ⟨g2, e2, hg2, hne⟩ := F3.out (by omega)
                  rw [e] at e2
                  cases e2
                  simp only [Nat.add_zero] at hc hf
                  subst e
                  have hi : (k : Int) < ((n3 : Nat) : Int) := by omega
                  have HS2 := Lib.hid (hS.set (off := k * 8) (.int .i64 77) hg2 hne)
                  have HK := Lib.hid hlt
                  clear hS hg2 hlt hk
                  go_wp2_with fail
                  go_roundw
                  case rel => exact ⟨k + 1, by go_num, HK.out, HS2.out⟩
                  case measure =>
                    have := HK.out
                    simp only [intOf]
                    omega
                · obtain rfl : n3 = k := by omega
                  have HS8 := Lib.hid hS
                  clear hS hk
                  go_wp2_with fail
                  go_end0
                  exact ⟨rfl, HS8.out.upd⟩
end Go.Proofs.YtljmmkjdlcfkpaaGreatDoor
