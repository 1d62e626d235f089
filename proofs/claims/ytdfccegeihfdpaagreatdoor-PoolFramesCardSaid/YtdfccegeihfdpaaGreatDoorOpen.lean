/-
  Arguments opened: a slice of bytes, a slice of structs, a parcel.
-/
import Derived.Test.YtdfccegeihfdpaaGreatDoorRows
import Derived.Test.YtdfccegeihfdpaaGreatDoorLib
import Derived.ProofKit
import Derived.Lib.SmallJoins
import Derived.Deep.Slices
namespace Go.Proofs.YtdfccegeihfdpaaGreatDoor
open Go Go.ChangeShapes Go.WideShapes Go.ChangeAt Go.RowKit

theorem list_choose {α : Type} {Q : Nat → α → Prop} : ∀ (n : Nat), (∀ i, i < n → ∃ a, Q i a) → ∃ L : List α, L.length = n ∧ ∀ i a, L[i]? = some a → Q i a := by
  intro n
  induction n with
  | zero => intro _; exact ⟨[], rfl, fun i a h => by simp at h⟩
  | succ n ih =>
    intro h
    obtain ⟨L, hl, hL⟩ := ih fun i hi => h i (by omega)
    obtain ⟨a, ha⟩ := h n (by omega)
    refine ⟨L ++ [a], by simp [hl], fun i b hb => ?_⟩
    by_cases hi : i < n
    · rw [List.getElem?_append_left (by omega)] at hb
      exact hL i b hb
    · have hlt := (List.getElem?_eq_some_iff.1 hb).1
      simp at hlt
      obtain rfl : i = n := by omega
      rw [List.getElem?_append_right (by omega)] at hb
      simp [hl] at hb
      subst hb
      exact ha

/-- A slice v of elements of 'size' cells each, the i-th of which is L[i] by E. -/
def RowsAt {α : Type} (W : World) (size : Nat) (E : List Value → α → Prop) (v : Value) (L : List α) : Prop :=
  ∃ A c, v = .slice A L.length c ∧ L.length ≤ c ∧ c ≤ maxLen ∧ (0 < L.length → ∃ b off, A = some ⟨b, off, none⟩ ∧ b < W.heap.size ∧
    ∀ i a, L[i]? = some a → ∃ cs, cs.length = size ∧ E cs a ∧ ∀ j u, cs[j]? = some u → W.cell? ⟨b, off + i * size + j, none⟩ = some u)

theorem addr_add (b off : Nat) (n : Nat) : (⟨b, off, none⟩ : Addr).add n = ⟨b, off + n, none⟩ := by
  unfold Addr.add; split <;> simp_all

theorem cell_lt {W : World} {a : Addr} {v : Value} (h : W.cell? a = some v) : a.block < W.heap.size ∧ a.spot = none := by
  unfold World.cell? at h
  split at h
  · rename_i hh
    refine ⟨lt_of_heap hh, ?_⟩
    split at h
    · cases h
    · rename_i hs; simpa using hs
  · cases h

section
variable {H : Type} {enc : TypeId × Value → H} {P : Program} {W : World} {base : Nat} {held : Bool}
theorem open_rows {α : Type} {E : List Value → α → Prop} {t e : TypeId} {m : Nat} {v : Value} {y : DataW H × List MemPlace} {sp : Nat → Bool} (size : Nat) (hpos : 0 < size) (ht : P.underlying t = some (.slice e)) (hc : P.cellsOf e = size)
    (h : DataW.trod enc P W base sp held m t [v] = some y) (hE : ∀ n cs y, cs.length = size → DataW.trod enc P W base sp held n e cs = some y → ∃ a : α, E cs a) : ∃ L : List α, RowsAt W size E v L := by
  rcases Deep.open_slice ht h with ⟨e2, _⟩ | ⟨a, len, cap, k, n, D, Pl, e2, _, hl, hm, hk, _, hi⟩
  · simp only [List.cons.injEq, and_true] at e2
    subst e2
    exact ⟨[], none, 0, rfl, Nat.le_refl _, Nat.zero_le _, fun h => absurd h (by simp)⟩
  · simp only [List.cons.injEq, and_true] at e2
    subst e2
    have hlk : len ≤ k := by rw [hk]; split <;> omega
    obtain ⟨L, hL, hQ⟩ := list_choose (Q := fun i (x : α) => ∃ cs, cs.length = size ∧ E cs x ∧ ∀ j, j < size → W.cell? ((a.add (i * size)).add j) = cs[j]?) len (fun i hi' => by
      obtain ⟨cs, h1, h2⟩ := hi i (by omega)
      rw [hc] at h1
      obtain ⟨_, h3, h4⟩ := World.cells?_some h1
      obtain ⟨x, hx⟩ := hE n cs _ h3 h2
      exact ⟨x, cs, h3, hx, h4⟩)
    subst hL
    refine ⟨L, some a, cap, rfl, hl, hm, fun h0 => ?_⟩
    obtain ⟨cs0, hs0, _, hc0⟩ := hQ 0 L[0] (List.getElem?_eq_getElem h0)
    have h00 := hc0 0 hpos
    rw [List.getElem?_eq_getElem (by omega : 0 < cs0.length)] at h00
    obtain ⟨hb, hsp⟩ := cell_lt h00
    obtain ⟨b, off, s⟩ := a
    have hs' : s = none := by simpa [Addr.add] using hsp
    subst hs'
    refine ⟨b, off, rfl, by simpa [Addr.add] using hb, fun i x hx => ?_⟩
    obtain ⟨cs, h1, h2, h3⟩ := hQ i x hx
    refine ⟨cs, h1, h2, fun j u hj => ?_⟩
    have hj' := (List.getElem?_eq_some_iff.1 hj).1
    have h4 := h3 j (by omega)
    rw [addr_add, addr_add, hj] at h4
    exact h4

/-- A slice of bytes. -/
theorem open_bytes {t e : TypeId} {m : Nat} {v : Value} {y : DataW H × List MemPlace} {sp : Nat → Bool} (ht : P.underlying t = some (.slice e)) (he : P.underlying e = some (.int .u8)) (hc : P.cellsOf e = 1)
    (h : DataW.trod enc P W base sp held m t [v] = some y) : ∃ l : List UInt8, Reads W 1 v l.length (bytesV l) ∧ l.length ≤ maxLen := by
  obtain ⟨L, A, c, rfl, hlc, hcm, hat⟩ := open_rows (E := fun cs (b : UInt8) => cs = [byteV b]) 1 (by omega) ht hc h (fun n cs y hl hy => by
    obtain ⟨z, e0, _, hw⟩ := DataW.trod_int he hy
    have hz : 0 ≤ z ∧ z ≤ 255 := by simpa [Lit.wf, IntKind.min, IntKind.max, IntKind.signed, IntKind.bits] using hw
    refine ⟨UInt8.ofNat z.toNat, ?_⟩
    rw [e0, byteV]
    have : (UInt8.ofNat z.toNat).toNat = z.toNat := by simp; omega
    rw [this, Int.toNat_of_nonneg hz.1])
  refine ⟨L, ⟨A, c, rfl, hlc, by simp [bytesV], fun h0 => ?_⟩, by omega⟩
  obtain ⟨b, off, rfl, hb, hcell⟩ := hat h0
  refine ⟨_, rfl, hb, rfl, fun j u hj => ?_⟩
  rw [bytesV_get] at hj
  obtain ⟨x, hx, rfl⟩ := Option.map_eq_some_iff.1 hj
  obtain ⟨cs, _, rfl, h3⟩ := hcell j x hx
  rw [addr_add]
  simpa using h3 0 (byteV x) rfl
end
end Go.Proofs.YtdfccegeihfdpaaGreatDoor
