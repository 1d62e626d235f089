/-
  The seeds of both sides.
-/
import Derived.Test.YtlboobboacjnmaaDoorLib
import Derived.Test.YtlboobboacjnmaaDoorRows
namespace Go.Proofs.YtlboobboacjnmaaDoor
open Go Go.RowKit

/-- A seed's next. -/
def nx (x : Int) : Int := IntKind.u64.wrap (IntKind.u64.wrap (x * 6364136223846793005) + 1442695040888963407)
/-- What is drawn of it. -/
def pick (x : Int) : Int := wrap64 (nx x / 8589934592)
/-- A number below another one. -/
def dr (x n : Int) : Int := (pick x).tmod n

theorem pick_nonneg (x : Int) : 0 ≤ pick x := by
  unfold pick nx
  rw [IntKind.wrap_u64]
  generalize IntKind.u64.wrap (x * 6364136223846793005) + 1442695040888963407 = y
  have h0 : 0 ≤ y % 18446744073709551616 := Int.emod_nonneg _ (by decide)
  have h1 : y % 18446744073709551616 < 18446744073709551616 := Int.emod_lt_of_pos _ (by decide)
  generalize y % 18446744073709551616 = z at *
  unfold wrap64
  omega
theorem dr_nonneg (x n : Int) : 0 ≤ dr x n := Int.tmod_nonneg _ (pick_nonneg x)
theorem dr_lt (x : Int) {n : Int} (hn : 0 < n) : dr x n < n := by
  unfold dr
  rw [Int.tmod_eq_emod_of_nonneg (pick_nonneg x)]
  exact Int.emod_lt_of_pos _ hn

set_option maxRecDepth 100000 in
theorem oneOf_ok (bs : Nat) (x : Int) (n : Int) (w : World) (h : Blk w bs 41 #[.int .u64 x]) (hn : 0 < n) :
    Calls Tryd.prog 10 #[.pointer (some ⟨bs, 0, none⟩), .int .i64 n] w fun e w' =>
      e = .returned (.int .i64 (dr x n)) ∧ Blk w' bs 41 #[.int .u64 (nx x)] ∧ Upd (· = bs) w w' := by
  have c0 := h.cell 0
  have f0 := h.frozen 0
  simp at c0
  have hn0 : (n == 0) = false := by simp; omega
  have hn1 : n ≠ 0 := by omega
  have H := Lib.hid h
  clear h
  go_enter Tryd.func10, Tryd.ntmps10
  go_wp2
  go_ret
  exact ⟨rfl, H.out.set_ 0 _, (Upd.refl (· = bs) w).setCell (fun _ => rfl) _⟩

set_option maxRecDepth 100000 in
theorem next_ok (bs : Nat) (x : Int) (w : World) (h : Blk w bs 53 #[.int .u64 x]) :
    Calls Tryd.prog 13 #[.pointer (some ⟨bs, 0, none⟩)] w fun e w' =>
      e = .returned (.int .i64 (pick x)) ∧ Blk w' bs 53 #[.int .u64 (nx x)] ∧ Upd (· = bs) w w' := by
  have c0 := h.cell 0
  have f0 := h.frozen 0
  simp at c0
  have H := Lib.hid h
  clear h
  go_enter Tryd.func13, Tryd.ntmps13
  go_wp2
  go_ret
  exact ⟨rfl, H.out.set_ 0 _, (Upd.refl (· = bs) w).setCell (fun _ => rfl) _⟩
end Go.Proofs.YtlboobboacjnmaaDoor
