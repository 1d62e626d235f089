/-
  The program's Text.
-/
import Derived.Test.YtdadfgaomighnaaGreatDoorTextC
import Derived.Test.YtdadfgaomighnaaGreatDoorTextY
namespace Go.Proofs.YtdadfgaomighnaaGreatDoor
open Go Go.RowKit

/-- The table of powers of ten lies in a world. -/
def PowAt (w : World) : Prop := Lib.TabIs Tryz.prog w "internal/strconv.uint64pow10" .u64 Lib.pow10Tab
theorem itoa_all (n : Int) (h0 : -9223372036854775808 ≤ n) (h1 : n ≤ 9223372036854775807) (w : World) (hw : PowAt w) : Calls Tryz.prog 16 #[.int .i64 n] w fun e w' => e = .returned (.string (itoaB n)) ∧ Below w.heap.size w w' :=
  (Any.strconv_Itoa Tryz.laysM171 n h0 h1 w hw).mono fun e w' ⟨he, k, os, hw'⟩ => ⟨he, by subst hw'; exact ⟨rfl, rfl, rfl, by simp [Sort.size_grow, World.drewN], fun j hj => Sort.heap_grow_old (w.drewN k) os hj⟩⟩
theorem PowAt.below {w w' : World} (h : PowAt w) (hb : Below w.heap.size w w') (hg : 1 < w.heap.size) : PowAt w' := by
  unfold PowAt Lib.TabIs World.var? at h ⊢
  rw [show Tryz.prog.globalNamed "internal/strconv.uint64pow10" = some 1 by kernel_rfl] at h ⊢
  simp only [Option.bind_some] at h ⊢
  rw [hb.block _ hg]
  exact h

def wn0 : ByteArray := (⟨#[110, 111, 116, 104, 105, 110, 103]⟩ : ByteArray)
def wn1 : ByteArray := (⟨#[97, 32, 112, 97, 103, 101, 32, 105, 115, 32, 97, 104, 101, 97, 100, 32, 111, 102, 32, 116, 104, 101, 32, 108, 111, 103]⟩ : ByteArray)
def wn2 : ByteArray := (⟨#[97, 32, 112, 97, 103, 101, 32, 104, 97, 115, 32, 97, 32, 107, 101, 121, 32, 111, 102, 32, 97, 110, 111, 116, 104, 101, 114, 32, 111, 110, 101]⟩ : ByteArray)
def wn3 : ByteArray := (⟨#[97, 32, 99, 104, 101, 99, 107, 112, 111, 105, 110, 116, 32, 116, 104, 97, 116, 32, 99, 97, 110, 39, 116, 32, 98, 101, 32, 114, 101, 97, 100]⟩ : ByteArray)
def wnE : ByteArray := (⟨#[115, 111, 109, 101, 116, 104, 105, 110, 103, 32, 101, 108, 115, 101]⟩ : ByteArray)
def spB : ByteArray := (⟨#[32]⟩ : ByteArray)
def wrg : ByteArray := (⟨#[119, 114, 111, 110, 103, 58, 32]⟩ : ByteArray)
def nn0 : ByteArray := (⟨#[111, 112, 101, 110, 101, 100]⟩ : ByteArray)
def nn1 : ByteArray := (⟨#[102, 105, 114, 115, 116]⟩ : ByteArray)
def nn2 : ByteArray := (⟨#[108, 97, 115, 116]⟩ : ByteArray)
def nn3 : ByteArray := (⟨#[99, 104, 101, 99, 107, 112, 111, 105, 110, 116]⟩ : ByteArray)
def nn4 : ByteArray := (⟨#[112, 97, 103, 101, 115]⟩ : ByteArray)
def nn5 : ByteArray := (⟨#[116, 111, 114, 110]⟩ : ByteArray)
def namedB (n : Int) : ByteArray := if n = 1 then wn1 else if n = 2 then wn2 else if n = 3 then wn3 else wnE
theorem named_wrong (n : Int) : wrg ++ namedB n = wrongB n := by
  unfold namedB wrongB
  by_cases h1 : n = 1
  · rw [if_pos h1, if_pos h1]; rfl
  rw [if_neg h1, if_neg h1]
  by_cases h2 : n = 2
  · rw [if_pos h2, if_pos h2]; rfl
  rw [if_neg h2, if_neg h2]
  by_cases h3 : n = 3
  · rw [if_pos h3, if_pos h3]; rfl
  rw [if_neg h3, if_neg h3]
  rfl
/-- The table of names lies in a world. -/
def WrongsAt (w : World) : Prop := w.cell? ⟨0, 1, none⟩ = some (.string wn1) ∧ w.cell? ⟨0, 2, none⟩ = some (.string wn2) ∧ w.cell? ⟨0, 3, none⟩ = some (.string wn3)
theorem WrongsAt.below {w w' : World} (h : WrongsAt w) (hb : Below w.heap.size w w') : WrongsAt w' := by
  have hg : 0 < w.heap.size := by
    have := h.1
    unfold World.cell? at this
    split at this
    · rename_i hh; exact lt_of_heap hh
    · cases this
  exact ⟨(hb.cell (p := ⟨0, 1, none⟩) hg).trans h.1, (hb.cell (p := ⟨0, 2, none⟩) hg).trans h.2.1, (hb.cell (p := ⟨0, 3, none⟩) hg).trans h.2.2⟩

set_option maxRecDepth 100000
set_option maxHeartbeats 2000000 in
theorem named_ok (n : Int) (w : World) (hw : WrongsAt w) : Calls Tryz.prog 17 #[.int .i64 n] w fun e w' => e = .returned (.string (namedB n)) ∧ w = w' := by
  obtain ⟨g1, g2, g3⟩ := hw
  by_cases h1 : n = 1
  · subst h1
    go_enter Tryz.func17, Tryz.ntmps17
    go_wp2
    go_ret
    exact ⟨rfl, rfl⟩
  by_cases h2 : n = 2
  · subst h2
    go_enter Tryz.func17, Tryz.ntmps17
    go_wp2
    go_ret
    exact ⟨rfl, rfl⟩
  by_cases h3 : n = 3
  · subst h3
    go_enter Tryz.func17, Tryz.ntmps17
    go_wp2
    go_ret
    exact ⟨rfl, rfl⟩
  have hw : namedB n = wnE := by unfold namedB; rw [if_neg h1, if_neg h2, if_neg h3]
  rw [hw]
  clear hw g1 g2 g3
  by_cases h0 : n < 1
  · go_enter Tryz.func17, Tryz.ntmps17
    go_wp2
    go_ret
    exact ⟨rfl, rfl⟩
  · have h4 : 4 ≤ n := by omega
    clear h1 h2 h3
    go_enter Tryz.func17, Tryz.ntmps17
    go_wp2
    go_ret
    exact ⟨rfl, rfl⟩
end Go.Proofs.YtdadfgaomighnaaGreatDoor

