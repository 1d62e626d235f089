/-
  Contracts of layer 10: cells in memory; fits, order, find, may.
-/
import Derived.Test.YtdfccegeihfdpaaGreatDoorPoD
import Derived.Test.YtdfccegeihfdpaaGreatDoorWm2
import Derived.Lib.Bytealg
import Derived.Sort.Walk0
namespace Go.Proofs.YtdfccegeihfdpaaGreatDoor
open Go Go.RowKit

/-- A cell's values. -/
def cellC (c : Ky × Vl) : List Value := [strV c.1, .bool c.2.1, strV c.2.2]
theorem cellC_len (c : Ky × Vl) : (cellC c).length = 3 := rfl
/-- A block of cells. -/
def IsC (w : World) (k : Nat) : Prop := ∃ cs fz, w.heap[k]? = some (.cells cs 155 fz)
def NoC (F : Nat → Prop) (w : World) : Prop := ∀ k, F k → ¬ IsC w k
theorem IsC.upd {F : Nat → Prop} {w w' : World} {k : Nat} (h : IsC w k) (hu : Upd F w w') (hF : ¬ F k) : IsC w' k := by
  obtain ⟨cs, fz, h⟩ := h
  exact ⟨cs, fz, (hu.block k (lt_of_heap h) hF).trans h⟩
theorem IsC.ne {w : World} {k g : Nat} {t : TypeId} {cs : Array Value} (h : IsC w k) (hb : Blk w g t cs) (ht : t ≠ 155) : k ≠ g := by
  rintro rfl
  obtain ⟨cs', fz, h⟩ := h
  unfold Blk at hb
  rw [h] at hb
  injection hb with hb
  injection hb with _ e _
  exact ht e.symm
theorem noC_blk {w : World} {g t : Nat} {cs : Array Value} (h : Blk w g t cs) (ht : t ≠ 155) : NoC (fun k => k = g) w := fun _ e hc => hc.ne h ht e
theorem NoC.nowhere (w : World) : NoC Nowhere w := fun _ h => absurd h id
/-- A row of cells that is read. -/
structure CellsE (w : World) (v : Value) (L : Cl) : Prop where
  els : Els 3 cellC w v L
  blk : ∀ k, v.ownBlock = some k → IsC w k
abbrev OwnC := OwnR 155 cellC 3
theorem cell_row : RowK Tryz.prog 70 155 cellC 3 :=
  ⟨Tryz.underlying70, ⟨.agg #[.string ⟨#[]⟩, .bool false, .string ⟨#[]⟩], 40, by kernel_rfl, rfl, by decide⟩, fun _ => rfl, fun a u h => by
    simp only [cellC, List.mem_cons, List.not_mem_nil, or_false] at h
    rcases h with rfl | rfl | rfl <;> rfl, by decide⟩
section
variable {F : Nat → Prop} {w w' : World} {v : Value} {L : Cl} {B : Nat}
theorem CellsE.upd (h : CellsE w v L) (hu : Upd F w w') (hF : NoC F w) : CellsE w' v L :=
  ⟨h.els.upd hu fun k hk e => hF k e (h.blk k hk), fun k hk => (h.blk k hk).upd hu fun e => hF k e (h.blk k hk)⟩
theorem CellsE.up (h : CellsE w v L) (hu : Upd Nowhere w w') : CellsE w' v L := h.upd hu (NoC.nowhere w)
theorem OwnR.cellsE (h : OwnC B w v L) : CellsE w v L := ⟨h.els, fun k hk => by
  obtain ⟨cs, hc⟩ := h.is_cells hk
  exact ⟨cs, _, hc⟩⟩
theorem CellsE.val (h : CellsE w v L) : ∃ A c, v = .slice A L.length c ∧ L.length ≤ c := h.els.val
theorem CellsE.get (h : CellsE w v L) {i : Nat} {a : Ky × Vl} (ha : L[i]? = some a) : ∃ b off c, v = .slice (some ⟨b, off, none⟩) L.length c ∧ b < w.heap.size ∧ w.cell? ⟨b, off + i * 3, none⟩ = some (strV a.1) ∧ w.cell? ⟨b, off + i * 3 + 1, none⟩ = some (.bool a.2.1) ∧ w.cell? ⟨b, off + i * 3 + 2, none⟩ = some (strV a.2.2) := by
  obtain ⟨b, off, c, hv, hb, hc⟩ := h.els.get cellC_len ha
  exact ⟨b, off, c, hv, hb, by have := hc 0 (by omega); rw [Nat.add_zero] at this; exact this, hc 1 (by omega), hc 2 (by omega)⟩
theorem CellsE.nil (w : World) : CellsE w (.slice none 0 0) [] := (OwnR.nil 155 cellC 3 0 w).cellsE
end

/-! ### the words -/
set_option maxRecDepth 100000 in
set_option maxHeartbeats 2000000 in
theorem fits_ok (c : Ky × Vl) (h : CellOK c) (w : World) : Calls Tryz.prog 131 #[strV c.1, .agg #[.bool c.2.1, strV c.2.2]] w fun e w' => e = .returned (.bool true) ∧ Upd Nowhere w w' := by
  obtain ⟨k, hh, d⟩ := c
  obtain ⟨h1, h2, h3, h4⟩ := h
  simp only at h1 h2 h3 h4 ⊢
  have hb : (k == []) = false := by rw [beq_eq_false_iff_ne]; exact h1
  have h2' : ((k.length : Nat) : Int) ≤ 16 := by omega
  have h3' : ((d.length : Nat) : Int) ≤ 32 := by omega
  have HU := Lib.hid ((Upd.refl Nowhere w).alloc (.cells #[.bool hh, strV d] 32))
  clear h1 h2 h3
  cases hh with
  | true =>
    clear h4
    go_enter Tryz.func131, Tryz.ntmps131
    go_wp2_with fail
    go_ret
    exact ⟨rfl, HU.out⟩
  | false =>
    obtain rfl : d = [] := h4.resolve_left (by decide)
    clear h4
    go_enter Tryz.func131, Tryz.ntmps131
    go_wp2_with fail
    go_ret
    exact ⟨rfl, HU.out⟩

theorem compareBytes_lt : ∀ (a b : Ky), (Go.Lib.compareBytes a b < 0) = (a < b)
  | [], [] => by simp [Go.Lib.compareBytes]
  | [], _ :: _ => by simp [Go.Lib.compareBytes]
  | _ :: _, [] => by simp [Go.Lib.compareBytes]
  | a :: la, b :: lb => by
    unfold Go.Lib.compareBytes
    rw [List.cons_lt_cons_iff, ← compareBytes_lt la lb]
    by_cases h : a < b
    · simp [h]
    · by_cases h' : b < a
      · have : a ≠ b := fun e => UInt8.lt_irrefl _ (e ▸ h')
        simp [h, h', this]
      · have e : a = b := UInt8.le_antisymm (UInt8.not_lt.1 h') (UInt8.not_lt.1 h)
        subst e
        simp [UInt8.lt_irrefl]
set_option maxRecDepth 100000 in
set_option maxHeartbeats 2000000 in
theorem cmpstr_ok (a b : Ky) (w : World) : Calls Tryz.prog 259 #[strV a, strV b] w fun e w' => e = .returned (.int .i64 (Go.Lib.compareBytes a b)) ∧ w' = w := by
  go_enter Tryz.func259, Tryz.ntmps259
  go_wp2_with fail
  rw [run_callFunc_extern Tryz.func262 (by kernel_rfl) (by kernel_rfl) (by kernel_rfl) (e := Extern.BytealgCompare.compare) (by kernel_rfl), Go.Lib.run_compareString]
  simp only [Result.andThen]
  rw [Oper.upon_value]
  go_wp2_with fail
  go_ret
  exact ⟨rfl, rfl⟩
set_option maxRecDepth 100000 in
set_option maxHeartbeats 2000000 in
theorem scompare_ok (a b : Ky) (w : World) : Calls Tryz.prog 245 #[strV a, strV b] w fun e w' => e = .returned (.int .i64 (Go.Lib.compareBytes a b)) ∧ w' = w := by
  go_enter Tryz.func245, Tryz.ntmps245
  go_wp2_with fail
  refine (cmpstr_ok a b w).mono ?_
  rintro e w1 ⟨rfl, rfl⟩
  go_wp2_with fail
  go_ret
  exact ⟨rfl, rfl⟩
set_option maxRecDepth 100000 in
set_option maxHeartbeats 2000000 in
theorem order_ok (k : Ky) (h : Bool) (d : Bs) (key : Ky) (w : World) : Calls Tryz.prog 197 #[.agg #[strV k, .bool h, strV d], strV key] w fun e w' => e = .returned (.int .i64 (Go.Lib.compareBytes k key)) ∧ Upd Nowhere w w' := by
  have HU := Lib.hid ((Upd.refl Nowhere w).alloc (.cells #[strV k, .bool h, strV d] 155))
  go_enter Tryz.func197, Tryz.ntmps197
  go_wp2_with fail
  refine (scompare_ok k key _).mono ?_
  rintro e w1 ⟨rfl, rfl⟩
  go_wp2_with fail
  go_ret
  exact ⟨rfl, HU.out⟩
end Go.Proofs.YtdfccegeihfdpaaGreatDoor
