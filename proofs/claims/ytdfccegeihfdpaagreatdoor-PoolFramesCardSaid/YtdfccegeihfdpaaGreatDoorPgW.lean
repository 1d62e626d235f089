/-
  Contracts of the document's pages: has, Room, Same.
-/
import Derived.Test.YtdfccegeihfdpaaGreatDoorPgV
import Derived.Deep.RegionHeld3
namespace Go.Proofs.YtdfccegeihfdpaaGreatDoor
open Go Go.RowKit

set_option maxRecDepth 100000 in
set_option maxHeartbeats 2000000 in
theorem rhas_ok {w : World} {v : Value} {L : Cl} (h : CellsE w v L) (hl : L.length ≤ 1000) (lsn : Int) (key : Ky) : Calls Tryz.prog 136 #[.agg #[.int .i64 lsn, v], strV key] w fun e w' => e = .returned (.bool (hasC L key)) ∧ Upd Nowhere w w' := by
  obtain ⟨A, c, rfl, hc⟩ := h.val
  have hb0 := Blk.new w 72 #[.int .i64 lsn, .slice A L.length c]
  have HU0 := Lib.hid ((Upd.refl Nowhere w).alloc (.cells #[.int .i64 lsn, .slice A L.length c] 72))
  have HB0 := Lib.hid hb0
  have H := Lib.hid h
  clear h
  obtain ⟨n, hn⟩ : ∃ n, L.length = n := ⟨_, rfl⟩
  rw [hn] at H HB0 HU0 hb0 hl hc ⊢
  have HN := Lib.hid hn
  have HH : Hid (∀ b, hasC L key = b → hasC L key = b) := Lib.hid fun _ h => h
  obtain ⟨hb, hhb⟩ : ∃ b, hasC L key = b := ⟨_, rfl⟩
  rw [hhb]
  have HHB := Lib.hid hhb
  clear hb0 hn hhb
  go_enter Tryz.func136, Tryz.ntmps136
  go_wp2_with fail
  generalize w.alloc (.cells #[.int .i64 lsn, .slice A n c] 72) = w1 at *
  go_loopw [5] (fun s5 wr => ∃ k : Nat, s5 = .int .i64 (k : Int) ∧ k ≤ n ∧ (∀ j p, j < k → L[j]? = some p → p.1 ≠ key) ∧ Upd Nowhere w1 wr) (fun s5 _ => n - (intOf s5).toNat)
  case atStart => exact ⟨0, rfl, by omega, fun j p hj => absurd hj (by omega), Upd.refl _ _⟩
  case round =>
    obtain ⟨k, rfl, hk, hno, hu⟩ := hrel
    have hbr := HB0.out.upd hu id
    have c1 := hbr.cell 1
    simp only [List.getElem?_toArray, List.getElem?_cons_zero, List.getElem?_cons_succ] at c1
    clear hbr
    by_cases hlt : k < n
    · obtain ⟨⟨kk, vh, vd⟩, hp⟩ : ∃ p, L[k]? = some p := ⟨_, List.getElem?_eq_getElem (by rw [HN.out]; exact hlt)⟩
      have hce := (H.out.up HU0.out).up hu
      have hg := hce.get hp
      rw [HN.out] at hg
      obtain ⟨b, off, c', he, hb, p0, p1, p2⟩ := hg
      cases he
      simp only at p0 p1 p2
      have hi : (k : Int) < (n : Int) := by omega
      have hne : (n : Int) ≤ 1000 := by omega
      have HU := Lib.hid hu
      have HNO := Lib.hid hno
      have HP := Lib.hid hp
      clear hu hno hp hce
      by_cases heq : kk = key
      · have hbe : (kk == key) = true := by simpa using heq
        have HEQ := Lib.hid heq
        clear heq
        go_wp2_with fail
        go_ret
        refine ⟨?_, HU0.out.same HU.out⟩
        have ht : hasC L key = true := List.any_eq_true.2 ⟨(kk, vh, vd), List.mem_of_getElem? HP.out, hbe⟩
        rw [← HHB.out, ht]
        rfl
      · have hbe : (kk == key) = false := by simpa using heq
        have HEQ := Lib.hid heq
        clear heq
        go_wp2_with fail
        go_roundw
        case rel =>
          refine ⟨k + 1, by go_num, by omega, fun j p hj hp => ?_, HU.out⟩
          rcases (by omega : j < k ∨ j = k) with h1 | rfl
          · exact HNO.out j p h1 hp
          · rw [HP.out] at hp; cases hp; exact HEQ.out
        case measure => simp [intOf]; omega
    · have e : k = n := by omega
      subst e
      have hi : ¬ (k : Int) < (k : Int) := by omega
      have HU := Lib.hid hu
      have HNO := Lib.hid hno
      clear hu hno
      go_wp2_with fail
      go_ret
      refine ⟨?_, HU0.out.same HU.out⟩
      have ht : hasC L key = false := by
        refine Bool.eq_false_iff.2 fun ht => ?_
        obtain ⟨p, hp, he⟩ := List.any_eq_true.1 ht
        obtain ⟨j, hj, e⟩ := List.getElem_of_mem hp
        exact HNO.out j p (by have := HN.out; omega) (by rw [List.getElem?_eq_getElem hj, e]) (by simpa using he)
      rw [← HHB.out, ht]
      rfl
set_option maxRecDepth 100000 in
set_option maxHeartbeats 2000000 in
theorem rroom_ok {w : World} {v : Value} {L : Cl} (h : CellsE w v L) (hl : L.length ≤ 1000) (lsn : Int) (key : Ky) : Calls Tryz.prog 83 #[.agg #[.int .i64 lsn, v], strV key] w fun e w' => e = .returned (.bool (roomB L key)) ∧ Upd Nowhere w w' := by
  obtain ⟨A, c, rfl, hc⟩ := h.val
  have hb0 := Blk.new w 72 #[.int .i64 lsn, .slice A L.length c]
  have HU0 := Lib.hid ((Upd.refl Nowhere w).alloc (.cells #[.int .i64 lsn, .slice A L.length c] 72))
  have HB0 := Lib.hid hb0
  have hhas := Lib.hid (rhas_ok (h.up HU0.out) hl lsn key)
  have HRB : Hid (roomB L key = (decide (L.length < 4) || hasC L key)) := Lib.hid rfl
  obtain ⟨rb, hrb⟩ : ∃ b, roomB L key = b := ⟨_, rfl⟩
  rw [hrb] at HRB ⊢
  obtain ⟨hb, hhb⟩ : ∃ b, hasC L key = b := ⟨_, rfl⟩
  rw [hhb] at HRB hhas
  obtain ⟨n, hn⟩ : ∃ n, L.length = n := ⟨_, rfl⟩
  rw [hn] at HRB hhas HB0 HU0 hl hc hb0 ⊢
  have c0 := hb0.cell 0
  have c1 := hb0.cell 1
  simp only [List.getElem?_toArray, List.getElem?_cons_zero, List.getElem?_cons_succ] at c0 c1
  clear h hb0 hn hrb hhb
  cases hb with
  | true =>
    go_enter Tryz.func83, Tryz.ntmps83
    go_wp2_with (refine hhas.out.mono ?_; rintro e w2 ⟨rfl, hu2⟩)
    go_ret
    refine ⟨?_, HU0.out.same hu2⟩
    rw [HRB.out]
    simp
  | false =>
    by_cases h4 : (n : Int) < 4
    · go_enter Tryz.func83, Tryz.ntmps83
      go_wp2_with (refine hhas.out.mono ?_; rintro e w2 ⟨rfl, hu2⟩; have d1 := (HB0.out.upd hu2 id).cell 1; simp only [List.getElem?_toArray, List.getElem?_cons_zero, List.getElem?_cons_succ] at d1)
      go_ret
      refine ⟨?_, HU0.out.same hu2⟩
      have e4 : decide (n < 4) = true := decide_eq_true (by omega)
      rw [HRB.out, e4]
      rfl
    · go_enter Tryz.func83, Tryz.ntmps83
      go_wp2_with (refine hhas.out.mono ?_; rintro e w2 ⟨rfl, hu2⟩; have d1 := (HB0.out.upd hu2 id).cell 1; simp only [List.getElem?_toArray, List.getElem?_cons_zero, List.getElem?_cons_succ] at d1)
      go_ret
      refine ⟨?_, HU0.out.same hu2⟩
      have e4 : decide (n < 4) = false := decide_eq_false (by omega)
      have e5 : decide ((n : Int) < 4) = false := decide_eq_false (by omega)
      rw [HRB.out, e4, e5]
      rfl
set_option maxRecDepth 100000 in
set_option maxHeartbeats 4000000 in
/-- Same pages are the same. -/
theorem rsame_ok {w : World} {v u : Value} {L : Cl} (h : CellsE w v L) (h' : CellsE w u L) (hl : L.length ≤ 1000) (lsn : Int) : Calls Tryz.prog 28 #[.agg #[.int .i64 lsn, v], .agg #[.int .i64 lsn, u]] w fun e w' => e = .returned (.bool true) ∧ Upd Nowhere w w' := by
  obtain ⟨A, c, rfl, hc⟩ := h.val
  obtain ⟨A', c', rfl, hc'⟩ := h'.val
  have hb0 := (Blk.new w 72 #[.int .i64 lsn, .slice A L.length c]).alloc (.cells #[.int .i64 lsn, .slice A' L.length c'] 72)
  have hb1 := Blk.new (w.alloc (.cells #[.int .i64 lsn, .slice A L.length c] 72)) 72 #[.int .i64 lsn, .slice A' L.length c']
  have HU0 := Lib.hid (((Upd.refl Nowhere w).alloc (.cells #[.int .i64 lsn, .slice A L.length c] 72)).alloc (.cells #[.int .i64 lsn, .slice A' L.length c'] 72))
  simp only [World.size_alloc] at hb1
  have HB0 := Lib.hid hb0
  have HB1 := Lib.hid hb1
  have H := Lib.hid h
  have H' := Lib.hid h'
  clear h h'
  obtain ⟨n, hn⟩ : ∃ n, L.length = n := ⟨_, rfl⟩
  rw [hn] at H H' HB0 HB1 HU0 hb0 hb1 hl hc hc' ⊢
  have HN := Lib.hid hn
  have c0 := hb0.cell 0
  have c1 := hb0.cell 1
  have d0 := hb1.cell 0
  have d1 := hb1.cell 1
  simp only [List.getElem?_toArray, List.getElem?_cons_zero, List.getElem?_cons_succ] at c0 c1 d0 d1
  clear hb0 hb1 hn
  go_enter Tryz.func28, Tryz.ntmps28
  go_wp2_with fail
  generalize (w.alloc (.cells #[.int .i64 lsn, .slice A n c] 72)).alloc (.cells #[.int .i64 lsn, .slice A' n c'] 72) = w1 at *
  clear c0 c1 d0 d1
  go_loopw [5] (fun s5 wr => ∃ k : Nat, s5 = .int .i64 (k : Int) ∧ k ≤ n ∧ Upd Nowhere w1 wr) (fun s5 _ => n - (intOf s5).toNat)
  case atStart => exact ⟨0, rfl, by omega, Upd.refl _ _⟩
  case round =>
    obtain ⟨k, rfl, hk, hu⟩ := hrel
    have c1 := (HB0.out.upd hu id).cell 1
    have d1 := (HB1.out.upd hu id).cell 1
    simp only [List.getElem?_toArray, List.getElem?_cons_zero, List.getElem?_cons_succ] at c1 d1
    by_cases hlt : k < n
    · obtain ⟨⟨kk, vh, vd⟩, hp⟩ : ∃ p, L[k]? = some p := ⟨_, List.getElem?_eq_getElem (by rw [HN.out]; exact hlt)⟩
      have hg := ((H.out.up HU0.out).up hu).get hp
      have hg' := ((H'.out.up HU0.out).up hu).get hp
      rw [HN.out] at hg hg'
      obtain ⟨b, off, c9, he, hb, p0, p1, p2⟩ := hg
      cases he
      obtain ⟨b', off', c9, he, hb', q0, q1, q2⟩ := hg'
      cases he
      simp only at p0 p1 p2 q0 q1 q2
      have hi : (k : Int) < (n : Int) := by omega
      have hne : (n : Int) ≤ 1000 := by omega
      have HU := Lib.hid hu
      clear hu hp
      go_wp2_with fail
      go_region
      all_goals
        go_wp2_with fail
        go_roundw
        case rel => exact ⟨k + 1, by go_num, by omega, HU.out.drew⟩
        case measure => simp [intOf]; omega
    · have e : k = n := by omega
      subst e
      have hi : ¬ (k : Int) < (k : Int) := by omega
      have HU := Lib.hid hu
      clear hu
      go_wp2_with fail
      go_ret
      exact ⟨rfl, HU0.out.same HU.out⟩
end Go.Proofs.YtdfccegeihfdpaaGreatDoor
