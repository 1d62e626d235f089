/-
  trothref07.Great returns, and changes nothing.
-/
import Derived.Test.YtbmedcghekgjnaaGreatDoorLib
import Derived.Test.YtbmedcghekgjnaaGreatDoorRows
import Derived.ProofKit
import Derived.Lib.SmallJoins
import Derived.Deep.DeepCutAuto
namespace Go.Proofs.YtbmedcghekgjnaaGreatDoor
open Go Go.RowKit

/-- A slice of so many elements of 'size' cells each, each cell of a kind. -/
def ListAt (w : World) (size : Nat) (E : Nat → Value → Prop) (A : Option Addr) (n : Nat) : Prop :=
  0 < n → ∃ b off, A = some ⟨b, off, none⟩ ∧ b < w.heap.size ∧ ∀ i, i < n → ∀ j, j < size → ∃ v, w.cell? ⟨b, off + i * size + j, none⟩ = some v ∧ E j v
theorem ListAt.upd {w w' : World} {size n : Nat} {E : Nat → Value → Prop} {A : Option Addr} (h : ListAt w size E A n) (hu : Upd Nowhere w w') : ListAt w' size E A n := fun hn => by
  obtain ⟨b, off, rfl, hb, hc⟩ := h hn
  refine ⟨b, off, rfl, Nat.lt_of_lt_of_le hb hu.size, fun i hi j hj => ?_⟩
  obtain ⟨v, hv, hE⟩ := hc i hi j hj
  exact ⟨v, (World.cell?_of_block (w := w) (hu.block b hb id)).trans hv, hE⟩

def lockE (j : Nat) (v : Value) : Prop := j = 0 → ∃ s, v = .string s
def rowE (j : Nat) (v : Value) : Prop := (j = 6 → ∃ A n c, v = .slice A n c) ∧ (j = 7 → ∃ A n c, v = .slice A n c)
def deedE (j : Nat) (v : Value) : Prop := j = 1 → ∃ A n c, v = .slice A n c

/-- A bool was returned. -/
def GotBool (e : Ending) : Prop := ∃ b, e = .returned (.bool b)

set_option maxRecDepth 100000 in
set_option maxHeartbeats 4000000 in
theorem great_ok (k0 k1 k2 k3 co : Int) (key od nd : ByteArray) (oh nh : Bool) (Am : Option Addr) (nm cm : Nat) (Al : Option Addr) (nl cl : Nat) (Ar : Option Addr) (nr cr : Nat) (Ad : Option Addr) (nd' cd : Nat) (Ae : Option Addr) (ne ce : Nat) (Ap : Option Addr) (np cp : Nat) (w : World)
    (hl : ListAt w 2 lockE Al nl) (hr : ListAt w 8 rowE Ar nr) (he : ListAt w 2 deedE Ae ne) :
    Calls Tryz.prog 7 #[.agg #[.int .i64 k0, .int .i64 k1, .int .i64 k2, .int .i64 k3, .string key, .bool oh, .string od, .bool nh, .string nd, .int .i64 co, .slice Am nm cm, .slice Al nl cl, .slice Ar nr cr, .slice Ad nd' cd, .slice Ae ne ce, .slice Ap np cp]] w
      fun e w' => GotBool e ∧ Upd Nowhere w w' := by
  have HL := Lib.hid hl
  have HR := Lib.hid hr
  have HE := Lib.hid he
  clear hl hr he
  go_enter Tryz.func7, Tryz.ntmps7
  go_upto_region 1 with (fail)
  have hb := Blk.new w 30 #[.int .i64 k0, .int .i64 k1, .int .i64 k2, .int .i64 k3, .string key, .bool oh, .string od, .bool nh, .string nd, .int .i64 co, .slice Am nm cm, .slice Al nl cl, .slice Ar nr cr, .slice Ad nd' cd, .slice Ae ne ce, .slice Ap np cp]
  have hu : Upd Nowhere w (w.alloc (.cells #[.int .i64 k0, .int .i64 k1, .int .i64 k2, .int .i64 k3, .string key, .bool oh, .string od, .bool nh, .string nd, .int .i64 co, .slice Am nm cm, .slice Al nl cl, .slice Ar nr cr, .slice Ad nd' cd, .slice Ae ne ce, .slice Ap np cp] 30)) := (Upd.refl _ _).alloc _
  generalize w.alloc (.cells #[.int .i64 k0, .int .i64 k1, .int .i64 k2, .int .i64 k3, .string key, .bool oh, .string od, .bool nh, .string nd, .int .i64 co, .slice Am nm cm, .slice Al nl cl, .slice Ar nr cr, .slice Ad nd' cd, .slice Ae ne ce, .slice Ap np cp] 30) = w1 at hb hu ⊢
  generalize w.heap.size = g at hb ⊢
  have HU := Lib.hid hu
  have HL := Lib.hid (HL.out.upd hu)
  have HR := Lib.hid (HR.out.upd hu)
  have HE := Lib.hid (HE.out.upd hu)
  have cb := hb.cell
  clear hb hu
  go_wp2
  all_goals first | (go_ret; exact ⟨⟨_, rfl⟩, HU.out⟩) | skip
  have hl80 : nl ≤ 80 := by omega
  have hr70 : nr ≤ 70 := by omega
  have he80 : ne ≤ 80 := by omega
  go_loopw [3] (fun t wr => ∃ k : Nat, k ≤ nl ∧ t = .int .i64 k ∧ w1 = wr) (fun t _ => nl - (intOf t).toNat)
  case atStart => exact ⟨0, Nat.zero_le _, rfl, rfl⟩
  case round =>
    obtain ⟨k, hk, rfl, rfl⟩ := hrel
    by_cases hlt : k < nl
    · obtain ⟨b, off, rfl, hbl, hc⟩ := HL.out (by omega)
      obtain ⟨u0, gu0, hE0⟩ := hc k hlt 0 (by omega)
      obtain ⟨s0, rfl⟩ := hE0 rfl
      simp only [Nat.add_zero] at gu0
      clear hc hE0 hbl
      go_wp2
      all_goals first
        | (go_ret; exact ⟨⟨_, rfl⟩, HU.out⟩)
        | (go_roundw
           case rel => exact ⟨k + 1, by omega, by go_num, by first | rfl | trivial⟩
           case measure => simp [intOf]; omega)
    · go_wp2
      go_loopw [4] (fun t wr => ∃ k : Nat, k ≤ nr ∧ t = .int .i64 k ∧ w1 = wr) (fun t _ => nr - (intOf t).toNat)
      case atStart => exact ⟨0, Nat.zero_le _, rfl, rfl⟩
      case round =>
        obtain ⟨k, hk, rfl, rfl⟩ := hrel
        by_cases hlt : k < nr
        · obtain ⟨b, off, rfl, hbl, hc⟩ := HR.out (by omega)
          obtain ⟨u6, gu6, hE6⟩ := hc k hlt 6 (by omega)
          obtain ⟨A6, n6, c6, rfl⟩ := hE6.1 rfl
          obtain ⟨u7, gu7, hE7⟩ := hc k hlt 7 (by omega)
          obtain ⟨A7, n7, c7, rfl⟩ := hE7.2 rfl
          clear hc hE6 hE7 hbl
          go_wp2
          all_goals first
            | (go_ret; exact ⟨⟨_, rfl⟩, HU.out⟩)
            | (go_roundw
               case rel => exact ⟨k + 1, by omega, by go_num, by first | rfl | trivial⟩
               case measure => simp [intOf]; omega)
        · go_wp2
          go_loopw [5] (fun t wr => ∃ k : Nat, k ≤ ne ∧ t = .int .i64 k ∧ w1 = wr) (fun t _ => ne - (intOf t).toNat)
          case atStart => exact ⟨0, Nat.zero_le _, rfl, rfl⟩
          case round =>
            obtain ⟨k, hk, rfl, rfl⟩ := hrel
            by_cases hlt : k < ne
            · obtain ⟨b, off, rfl, hbl, hc⟩ := HE.out (by omega)
              obtain ⟨u1, gu1, hE1⟩ := hc k hlt 1 (by omega)
              obtain ⟨A1, n1, c1, rfl⟩ := hE1 rfl
              clear hc hE1 hbl
              go_wp2
              all_goals first
                | (go_ret; exact ⟨⟨_, rfl⟩, HU.out⟩)
                | (go_roundw
                   case rel => exact ⟨k + 1, by omega, by go_num, by first | rfl | trivial⟩
                   case measure => simp [intOf]; omega)
            · go_wp2
              go_ret
              exact ⟨⟨_, rfl⟩, HU.out⟩
end Go.Proofs.YtbmedcghekgjnaaGreatDoor
