/-
  History: the document's set.
-/
import Derived.Test.YtlhmbbnjnonmnaaHistG
import Derived.Sort.Walk0
namespace Go.Proofs.Ytlhmbbnjnonmnaa
open Go Go.RowKit

theorem flatC_drop (L : List (Ky × Vl)) (j : Nat) : flatC (L.drop j) = (flatC L).drop (j * 3) := by
  induction L generalizing j with
  | nil => simp [flatC]
  | cons p L ih =>
    cases j with
    | zero => simp
    | succ j =>
      rw [List.drop_succ_cons, ih, show (j + 1) * 3 = 3 + j * 3 by omega, show flatC (p :: L) = cellC p ++ flatC L from rfl, ← List.drop_drop, List.drop_left' (cellC_len p)]
theorem rest_cells {w : World} {b off c : Nat} {L : List (Ky × Vl)} (h : CellsE w (.slice (some ⟨b, off, none⟩) L.length c) L) (h0 : 0 < L.length) (j : Nat) : ∀ i u, (flatC (L.drop j))[i]? = some u → w.cell? ((⟨b, off + j * 3, none⟩ : Addr).add i) = some u := by
  obtain ⟨b', off', c', he, _, hc⟩ := Reads.addr h h0
  cases he
  intro i u hi
  rw [flatC_drop, List.getElem?_drop] at hi
  have e : (⟨b, off + j * 3, none⟩ : Addr).add i = ⟨b, off + (j * 3 + i), none⟩ := by unfold Addr.add; split <;> simp_all [Nat.add_assoc]
  rw [e]
  exact hc _ _ hi
set_option maxHeartbeats 4000000 in
set_option maxRecDepth 100000 in
theorem hset_ok {w : World} {v : Value} {L : List (Ky × Vl)} (h : CellsE w v L) (hl : L.length ≤ 5000) (hA : L = [] → v = .slice none 0 0) (k : Ky) (x : Vl) : Calls Try.prog 20 #[v, .string ⟨k.toArray⟩, valV x] w fun r w' => ∃ v', r = .returned v' ∧ Made w w' v' (setV L k x) := by
  obtain ⟨A, c, rfl, hc⟩ := h.val
  have hb0 := Blk.new w 33 #[.bool x.1, .string x.2]
  have HM0 := Lib.hid ((Made.nil w).alloc (.cells #[.bool x.1, .string x.2] 33))
  have HB0 := Lib.hid hb0
  have H := Lib.hid h
  have HA := Lib.hid hA
  clear h hb0 hA
  unfold valV
  go_enter Try.func20, Try.ntmps20
  go_wp2_with fail
  generalize w.alloc (.cells #[.bool x.1, .string x.2] 33) = w1 at *
  go_loopw [7, 8] (fun t s wr => ∃ j : Nat, j ≤ L.length ∧ s = .int .i64 j ∧ (∀ i p, i < j → L[i]? = some p → p.1 < k) ∧ Made w wr t (L.take j) ∧ Blk wr w.heap.size 33 #[.bool x.1, .string x.2]) (fun _ s _ => L.length - (intOf s).toNat)
  case atStart => exact ⟨0, by omega, rfl, fun i p hi => absurd hi (by omega), HM0.out, HB0.out⟩
  case round =>
    obtain ⟨j, hj, rfl, hno, hM, hB⟩ := hrel
    by_cases hlt : j < L.length
    · obtain ⟨p, hp⟩ : ∃ p, L[j]? = some p := ⟨_, List.getElem?_eq_getElem hlt⟩
      obtain ⟨b, off, c', he, hb, q0, q1, q2⟩ := cell_at (H.out.upd hM.upd fun _ _ => id) hp
      cases he
      have hi : (j : Int) < (L.length : Nat) := by omega
      obtain ⟨kk, vv⟩ := p
      have HNO := Lib.hid hno
      have HP := Lib.hid hp
      have HM := Lib.hid hM
      have HB := Lib.hid hB
      clear hno hp hM hB
      by_cases hkk : kk < k
      · obtain ⟨v3, w3, hrun3, hM3, hB3⟩ := HM.out.app1 (kk, vv) (by have := List.length_take_le j L; omega)
        have HRUN := Lib.hid hrun3
        have HM3 := Lib.hid hM3
        have HB3 := Lib.hid (hB3 _ _ HB.out)
        clear hrun3 hM3 hB3
        have hbl : Op.bytesLess kk k = true := by rw [_root_.Go.Proofs.bytesLess_eq]; simpa using hkk
        go_wp2_with (at_builtin; refine wpList_append_run rfl _ _ _ rfl rfl rfl HRUN.out ?_)
        go_roundw
        case rel =>
          refine ⟨j + 1, by omega, by go_num, fun i p hij hp => ?_, ?_, HB3.out⟩
          · rcases (by omega : i < j ∨ i = j) with h1 | rfl
            · exact HNO.out i p h1 hp
            · rw [HP.out] at hp; cases hp; exact hkk
          · rw [List.take_add_one, HP.out]
            exact HM3.out
        case measure => simp [intOf]; omega
      · have hbl : Op.bytesLess kk k = false := by rw [_root_.Go.Proofs.bytesLess_eq]; simpa using hkk
        have cb := HB.out.cell
        obtain ⟨v3, w3, hrun3, hM3, hB3⟩ := HM.out.app1 (k, x) (by have := List.length_take_le j L; omega)
        have HRUN := Lib.hid hrun3
        have HM3 := Lib.hid hM3
        clear hrun3 hB3
        obtain ⟨b', off', _, he', _, s0, s1, s2⟩ := cell_at (H.out.upd hM3.upd fun _ _ => id) HP.out
        cases he'
        clear hM3
        have HR := Lib.hid (H.out.upd HM3.out.upd fun _ _ => id)
        have h0 : 0 < L.length := by omega
        by_cases heq : kk = k
        · have hbe : (kk == k) = true := by simpa using heq
          have HEQ := Lib.hid heq
          clear heq
          by_cases hcap : c = j + 1
          · have hz : L.length = j + 1 := by omega
            have HZ := Lib.hid hz
            clear hz
            obtain ⟨v5, w5, hrun5, hM5, _⟩ := HM3.out.app ⟨b, off, none⟩ (L.length - (j + 1)) (c - (j + 1)) (L.drop (j + 1)) (by simp) (fun i u hi => by rw [List.drop_of_length_le (by have := HZ.out; omega)] at hi; simp [flatC] at hi) (by have := List.length_take_le j L; simp only [List.length_append, List.length_cons, List.length_nil]; omega)
            have HRUN5 := Lib.hid hrun5
            have HM5 := Lib.hid hM5
            clear hrun5 hM5
            go_wp2_with (first | (at_builtin; refine wpList_append_run rfl _ _ _ rfl rfl rfl HRUN.out ?_) | (at_builtin; refine wpList_append_run rfl _ _ _ rfl rfl rfl HRUN5.out ?_))
            go_ret
            refine ⟨_, rfl, ?_⟩
            rw [set_split hj HNO.out (fun p hp => by rw [HP.out] at hp; cases hp; exact hkk), HP.out]
            have := HM5.out
            simpa [HEQ.out] using this
          · have hc2 : ¬ c = j + 1 := hcap
            obtain ⟨v5, w5, hrun5, hM5, _⟩ := HM3.out.app ⟨b, off + (j + 1) * 3, none⟩ (L.length - (j + 1)) (c - (j + 1)) (L.drop (j + 1)) (by simp) (rest_cells HR.out h0 (j + 1)) (by have := List.length_take_le j L; simp only [List.length_append, List.length_cons, List.length_nil]; omega)
            have HRUN5 := Lib.hid hrun5
            have HM5 := Lib.hid hM5
            clear hrun5 hM5
            go_wp2_with (first | (at_builtin; refine wpList_append_run rfl _ _ _ rfl rfl rfl HRUN.out ?_) | (at_builtin; refine wpList_append_run rfl _ _ _ rfl rfl rfl HRUN5.out ?_))
            go_ret
            refine ⟨_, rfl, ?_⟩
            rw [set_split hj HNO.out (fun p hp => by rw [HP.out] at hp; cases hp; exact hkk), HP.out]
            have := HM5.out
            simpa [HEQ.out] using this
        · have hbe : (kk == k) = false := by simpa using heq
          have HEQ := Lib.hid heq
          clear heq
          have hc2 : ¬ c = j := by omega
          obtain ⟨v5, w5, hrun5, hM5, _⟩ := HM3.out.app ⟨b, off + j * 3, none⟩ (L.length - j) (c - j) (L.drop j) (by simp) (rest_cells HR.out h0 j) (by have := List.length_take_le j L; simp only [List.length_append, List.length_cons, List.length_nil]; omega)
          have HRUN5 := Lib.hid hrun5
          have HM5 := Lib.hid hM5
          clear hrun5 hM5
          go_wp2_with (first | (at_builtin; refine wpList_append_run rfl _ _ _ rfl rfl rfl HRUN.out ?_) | (at_builtin; refine wpList_append_run rfl _ _ _ rfl rfl rfl HRUN5.out ?_))
          go_ret
          refine ⟨_, rfl, ?_⟩
          rw [set_split hj HNO.out (fun p hp => by rw [HP.out] at hp; cases hp; exact hkk), HP.out]
          have := HM5.out
          simpa [HEQ.out] using this
    · have e : ¬ (j : Int) < (L.length : Nat) := by omega
      obtain rfl : j = L.length := by omega
      have HNO := Lib.hid hno
      have HM := Lib.hid hM
      have HB := Lib.hid hB
      have cb := hB.cell
      obtain ⟨v3, w3, hrun3, hM3, _⟩ := hM.app1 (k, x) (by have := List.length_take_le L.length L; omega)
      have HS : Hid (setV L k x = L.take L.length ++ [(k, x)]) := Lib.hid (by
        rw [set_split hj HNO.out (fun p hp => by rw [List.getElem?_eq_none (Nat.le_refl _)] at hp; cases hp)]
        simp)
      by_cases hL : L.length = 0
      · have hnil : L = [] := List.length_eq_zero_iff.1 hL
        have hv := HA.out hnil
        simp only [Value.slice.injEq] at hv
        obtain ⟨rfl, _, rfl⟩ := hv
        obtain ⟨n3, g3, cap3, rfl, hcap3⟩ : ∃ n3 g3 cap3, v3 = .slice (some ⟨g3, 0, none⟩) n3 cap3 ∧ n3 ≤ cap3 := by
          obtain ⟨_, ⟨_, h⟩ | ⟨g3, cap3, cur, rfl, _, _, hc3, _⟩⟩ := hM3.row
          · simp at h
          · exact ⟨_, g3, cap3, rfl, hc3⟩
        have HRUN := Lib.hid hrun3
        have HM3 := Lib.hid hM3
        have HCAP := Lib.hid hcap3
        clear hrun3 hno hM hB hM3 hcap3
        go_wp2_with (first | (at_builtin; refine wpList_append_run rfl _ _ _ rfl rfl rfl HRUN.out ?_) | (at_builtin; refine wpList_append_run rfl _ _ _ rfl rfl rfl (run_append_none _ _ _ _ _ HCAP.out) ?_))
        go_ret
        refine ⟨_, rfl, ?_⟩
        have h9 := HS.out
        have h8 := HM3.out
        rw [hnil] at h9 h8
        rw [h9]
        exact h8
      · obtain ⟨b, off, c', he, _, _⟩ := Reads.addr H.out (by omega)
        cases he
        have HRUN := Lib.hid hrun3
        have HM3 := Lib.hid hM3
        clear hrun3 hno hM hB hM3
        by_cases hcap : c = L.length
        · obtain ⟨v5, w5, hrun5, hM5, _⟩ := HM3.out.app ⟨b, off, none⟩ 0 0 [] rfl (fun i u hi => by simp [flatC] at hi) (by have := List.length_take_le L.length L; simp only [List.length_append, List.length_cons, List.length_nil]; omega)
          have HRUN5 := Lib.hid hrun5
          have HM5 := Lib.hid hM5
          clear hrun5 hM5
          go_wp2_with (first | (at_builtin; refine wpList_append_run rfl _ _ _ rfl rfl rfl HRUN.out ?_) | (at_builtin; refine wpList_append_run rfl _ _ _ rfl rfl rfl HRUN5.out ?_))
          go_ret
          exact ⟨_, rfl, by have := HM5.out; rw [List.append_nil] at this; rw [HS.out]; exact this⟩
        · have hc2 : ¬ c = L.length := hcap
          obtain ⟨v5, w5, hrun5, hM5, _⟩ := HM3.out.app ⟨b, off + L.length * 3, none⟩ 0 (c - L.length) [] rfl (fun i u hi => by simp [flatC] at hi) (by have := List.length_take_le L.length L; simp only [List.length_append, List.length_cons, List.length_nil]; omega)
          have HRUN5 := Lib.hid hrun5
          have HM5 := Lib.hid hM5
          clear hrun5 hM5
          go_wp2_with (first | (at_builtin; refine wpList_append_run rfl _ _ _ rfl rfl rfl HRUN.out ?_) | (at_builtin; refine wpList_append_run rfl _ _ _ rfl rfl rfl HRUN5.out ?_))
          go_ret
          exact ⟨_, rfl, by have := HM5.out; rw [List.append_nil] at this; rw [HS.out]; exact this⟩
end Go.Proofs.Ytlhmbbnjnonmnaa
