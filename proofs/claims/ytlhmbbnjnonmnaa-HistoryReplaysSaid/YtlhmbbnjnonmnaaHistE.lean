/-
  History: a key's value among the document's cells.
-/
import Derived.Test.YtlhmbbnjnonmnaaHistD
namespace Go.Proofs.Ytlhmbbnjnonmnaa
open Go Go.RowKit

def cellC (p : Ky × Vl) : List Value := [.string ⟨p.1.toArray⟩, .bool p.2.1, .string p.2.2]
theorem cellC_len (p : Ky × Vl) : (cellC p).length = 3 := rfl
abbrev CellsE := Els 3 cellC
def valV (v : Vl) : Value := .agg #[.bool v.1, .string v.2]
theorem cell_at {w : World} {v : Value} {L : List (Ky × Vl)} (h : CellsE w v L) {i : Nat} {p : Ky × Vl} (hz : L[i]? = some p) : ∃ b off c, v = .slice (some ⟨b, off, none⟩) L.length c ∧ b < w.heap.size ∧
    w.cell? ⟨b, off + i * 3, none⟩ = some (.string ⟨p.1.toArray⟩) ∧ w.cell? ⟨b, off + i * 3 + 1, none⟩ = some (.bool p.2.1) ∧ w.cell? ⟨b, off + i * 3 + 2, none⟩ = some (.string p.2.2) := by
  obtain ⟨b, off, c, rfl, hb, hc⟩ := h.get cellC_len hz
  exact ⟨b, off, c, rfl, hb, hc 0 (by omega), hc 1 (by omega), hc 2 (by omega)⟩
theorem valueOf_hit : ∀ {L : List (Ky × Vl)} {k : Ky} {i : Nat} {v : Vl}, L[i]? = some (k, v) → (∀ j p, j < i → L[j]? = some p → p.1 ≠ k) → valueOf L k = v
  | [], _, _, _, h, _ => by simp at h
  | (k', v') :: r, k, 0, v, h, _ => by
    obtain ⟨rfl, rfl⟩ : k' = k ∧ v' = v := by simpa using h
    simp [valueOf]
  | (k', v') :: r, k, i + 1, v, h, hn => by
    have h1 : k' ≠ k := hn 0 (k', v') (by omega) rfl
    simp only [valueOf, if_neg h1]
    exact valueOf_hit (by simpa using h) fun j p hj hp => hn (j + 1) p (by omega) (by simpa using hp)
theorem valueOf_none : ∀ {L : List (Ky × Vl)} {k : Ky}, (∀ p ∈ L, p.1 ≠ k) → valueOf L k = noV
  | [], _, _ => rfl
  | (k', v') :: r, k, h => by
    have h1 : k' ≠ k := h (k', v') (List.mem_cons_self ..)
    simp only [valueOf, if_neg h1]
    exact valueOf_none fun p hp => h p (List.mem_cons_of_mem _ hp)
set_option maxHeartbeats 1000000 in
theorem hvalue_ok {w : World} {v : Value} {L : List (Ky × Vl)} (h : CellsE w v L) (hl : L.length ≤ 5000) (k : Ky) : Calls Try.prog 19 #[v, .string ⟨k.toArray⟩] w fun r w' => r = .returned (valV (valueOf L k)) ∧ Upd Nowhere w w' := by
  obtain ⟨A, c, rfl, hc⟩ := h.val
  have hb0 := Blk.new w 33 #[.bool false, .string ⟨#[]⟩]
  have hu0 : Upd Nowhere w (w.alloc (.cells #[.bool false, .string ⟨#[]⟩] 33)) := (Upd.refl _ w).alloc _
  have h1 := h.alloc (.cells #[.bool false, .string ⟨#[]⟩] 33)
  have c0 := hb0.cell
  have f0 := hb0.frozen
  have l0 := hb0.lt
  have HB := Lib.hid hb0
  have HU := Lib.hid hu0
  have H := Lib.hid h1
  have HH := Lib.hid h
  clear h h1 hb0 hu0
  go_enter Try.func19, Try.ntmps19
  go_wp2_with fail
  generalize w.alloc (.cells #[.bool false, .string ⟨#[]⟩] 33) = w1 at *
  go_loopw [5] (fun t wr => ∃ j : Nat, j ≤ L.length ∧ t = .int .i64 j ∧ (∀ i p, i < j → L[i]? = some p → p.1 ≠ k) ∧ wr = w1) (fun t _ => L.length - (intOf t).toNat)
  case atStart => exact ⟨0, by omega, rfl, fun i p hj => absurd hj (by omega), rfl⟩
  case round =>
    obtain ⟨j, hj, rfl, hno, rfl⟩ := hrel
    by_cases hlt : j < L.length
    · obtain ⟨p, hp⟩ : ∃ p, L[j]? = some p := ⟨_, List.getElem?_eq_getElem hlt⟩
      obtain ⟨b, off, c', he, hb, q0, q1, q2⟩ := cell_at H.out hp
      cases he
      have hi : (j : Int) < (L.length : Nat) := by omega
      obtain ⟨kk, vv⟩ := p
      have HNO := Lib.hid hno
      have HP := Lib.hid hp
      clear hno hp
      by_cases heq : kk = k
      · subst heq
        have HV : Hid (valueOf L kk = vv) := Lib.hid (valueOf_hit HP.out HNO.out)
        go_wp2_with fail
        refine bodyPost_ret (results_cell_row rfl _ _ w.heap.size 33 #[.bool vv.1, .string vv.2] _ _ rfl ((HB.out.set_ 0 _).set_ 1 _) Try.underlying33 rfl (by kernel_rfl)) rfl ?_
        refine ⟨by rw [HV.out]; rfl, ?_⟩
        refine (HU.out.trans (((Upd.refl (· = w.heap.size) wr).setCell (p := ⟨w.heap.size, 0, none⟩) (fun _ => rfl) _).setCell (p := ⟨w.heap.size, 1, none⟩) (fun _ => rfl) _) fun i hi (he : i = w.heap.size) => ?_)
        omega
      · have hbe : (kk == k) = false := by simpa using heq
        go_wp2_with fail
        go_roundw
        case rel =>
          refine ⟨j + 1, by omega, by go_num, fun i p hij hp => ?_, by trivial⟩
          rcases (by omega : i < j ∨ i = j) with h1 | rfl
          · exact HNO.out i p h1 hp
          · rw [HP.out] at hp; cases hp; exact heq
        case measure => simp [intOf]; omega
    · have e : ¬ (j : Int) < (L.length : Nat) := by omega
      have HV : Hid (valueOf L k = noV) := Lib.hid (valueOf_none fun p hp => by
        obtain ⟨i, hi, e⟩ := List.getElem_of_mem hp
        exact hno i p (by omega) (by rw [List.getElem?_eq_getElem hi, e]))
      clear hno
      go_wp2_with fail
      refine bodyPost_ret (results_cell_row rfl _ _ w.heap.size 33 #[.bool false, .string ⟨#[]⟩] _ _ rfl ((HB.out.set_ 0 _).set_ 1 _) Try.underlying33 rfl (by kernel_rfl)) rfl ?_
      refine ⟨by rw [HV.out]; rfl, ?_⟩
      refine (HU.out.trans (((Upd.refl (· = w.heap.size) wr).setCell (p := ⟨w.heap.size, 0, none⟩) (fun _ => rfl) _).setCell (p := ⟨w.heap.size, 1, none⟩) (fun _ => rfl) _) fun i hi (he : i = w.heap.size) => ?_)
      omega
end Go.Proofs.Ytlhmbbnjnonmnaa
