/-
  Acts that are the same.
-/
import Derived.Test.YtlboobboacjnmaaDoorLoadB
namespace Go.Proofs.YtlboobboacjnmaaDoor
open Go Go.RowKit

theorem ints_ok (w : World) : Calls Tryd.prog 15 #[.slice none 0 0, .slice none 0 0] w fun e w' => e = .returned (.bool true) ∧ w' = w := by
  go_enter Tryd.func15, Tryd.ntmps15
  go_wp2_with fail
  go_loopw [5] (fun t wr => t = .int .i64 0 ∧ wr = w) (fun _ _ => 0)
  case atStart => exact ⟨rfl, rfl⟩
  case round =>
    obtain ⟨rfl, rfl⟩ := hrel
    go_wp2_with fail
    go_ret
    exact ⟨rfl, rfl⟩
set_option maxHeartbeats 4000000 in
set_option maxRecDepth 100000 in
theorem same_ok (a : ActD) (w : World) : Calls Tryd.prog 9 #[.agg a.cells.toArray, .agg a.cells.toArray] w fun e w' => e = .returned (.bool true) ∧ Upd Nowhere w w' := by
  obtain ⟨kind, n, tx, key, has, data⟩ := a
  have HU := Lib.hid (((Upd.refl Nowhere w).alloc (.cells #[.int .i64 kind, .int .i64 n, .int .i64 0, .int .u8 0, .int .i64 tx, .string key, .bool has, .string data, .slice none 0 0, .bool false, .int .i64 0] 39)).alloc (.cells #[.int .i64 kind, .int .i64 n, .int .i64 0, .int .u8 0, .int .i64 tx, .string key, .bool has, .string data, .slice none 0 0, .bool false, .int .i64 0] 39))
  simp only [ActD.cells]
  go_enter Tryd.func9, Tryd.ntmps9
  go_wp2_with fail
  refine (ints_ok _).mono ?_
  rintro e _ ⟨rfl, rfl⟩
  go_wp2_with fail
  go_ret
  exact ⟨rfl, HU.out⟩
theorem own_cells {w : World} {B size n : Nat} {e : TypeId} {v : Value} {xs : List Value} (h : w.ownsRow B e size v n xs) (hn : 0 < n) : ∃ G c, v = .slice (some ⟨G, 0, none⟩) n c ∧ ∀ j u, xs[j]? = some u → w.cell? ⟨G, j, none⟩ = some u := by
  obtain ⟨hl, h | ⟨G, c, cur, rfl, _, hh, _, _, _, ht⟩⟩ := h
  · omega
  · refine ⟨G, c, rfl, fun j u hj => ?_⟩
    have hlt : j < xs.length := (List.getElem?_eq_some_iff.1 hj).1
    rw [← ht, List.getElem?_take, if_pos (by omega)] at hj
    simp only [World.cell?, hh]
    simpa using hj
/-- An act's cells in a row. -/
def ActAt (w : World) (G i : Nat) (a : ActD) : Prop :=
  w.cell? ⟨G, i * 11, none⟩ = some (.int .i64 a.kind) ∧ w.cell? ⟨G, i * 11 + 1, none⟩ = some (.int .i64 a.n) ∧ w.cell? ⟨G, i * 11 + 2, none⟩ = some (.int .i64 0) ∧ w.cell? ⟨G, i * 11 + 3, none⟩ = some (.int .u8 0) ∧ w.cell? ⟨G, i * 11 + 4, none⟩ = some (.int .i64 a.tx) ∧ w.cell? ⟨G, i * 11 + 5, none⟩ = some (.string a.key) ∧
    w.cell? ⟨G, i * 11 + 6, none⟩ = some (.bool a.has) ∧ w.cell? ⟨G, i * 11 + 7, none⟩ = some (.string a.data) ∧ w.cell? ⟨G, i * 11 + 8, none⟩ = some (.slice none 0 0) ∧ w.cell? ⟨G, i * 11 + 9, none⟩ = some (.bool false) ∧ w.cell? ⟨G, i * 11 + 10, none⟩ = some (.int .i64 0)
theorem row_act {w : World} {B n c G : Nat} {L : List ActD} (h : w.ownsRow B 39 11 (.slice (some ⟨G, 0, none⟩) n c) n (flatA L)) {i : Nat} {a : ActD} (hn : 0 < n) (ha : L[i]? = some a) : ActAt w G i a := by
  obtain ⟨G', c', he, hc⟩ := own_cells h hn
  cases he
  have g := fun j hj => flatA_get ha j hj
  exact ⟨hc _ _ (g 0 (by omega)), hc _ _ (g 1 (by omega)), hc _ _ (g 2 (by omega)), hc _ _ (g 3 (by omega)), hc _ _ (g 4 (by omega)), hc _ _ (g 5 (by omega)), hc _ _ (g 6 (by omega)), hc _ _ (g 7 (by omega)), hc _ _ (g 8 (by omega)), hc _ _ (g 9 (by omega)), hc _ _ (g 10 (by omega))⟩
end Go.Proofs.YtlboobboacjnmaaDoor
