/-
  The log and all below it: part 10 of 10 (merged by mergew.py).
-/
import Derived.Test.YtljmmkjdlcfkpaaGreatDoorWm9
import Derived.Test.YtljmmkjdlcfkpaaGreatDoorWm5
import Derived.Test.YtljmmkjdlcfkpaaGreatDoorAwake09
/-
  WalFull: the law, walked.
-/
namespace Go.Proofs.YtljmmkjdlcfkpaaGreatDoor
open Go Go.RowKit

set_option maxRecDepth 100000 in
set_option maxHeartbeats 1000000 in
theorem one_ok (tx : Int) (w : World) : Calls Tryz.prog 11 #[.int .i64 tx] w fun e w' => e = .returned (.agg (oneA tx)) ∧ Upd Nowhere w w' := by
  unfold oneA
  go_enter Tryz.func11, Tryz.ntmps11
  go_wp2_with fail
  refine bodyPost_ret (results_cell_row rfl _ _ w.heap.size 38 (oneA tx) _ _ rfl (Blk.new w 38 (oneA tx)) Tryz.underlying38 rfl (by kernel_rfl)) rfl ?_
  exact ⟨rfl, (Upd.refl Nowhere w).alloc _⟩
theorem HalfAt.of {w : World} (h : HalfW w) : HalfAt w := h
/-- How many records there is room for. -/
def roomN (count spare : Nat) : Nat := min (count - spare) 60
theorem FullS.next_step {count spare i : Nat} {S : LogS} (hc : 8 ≤ count ∧ count ≤ 40) (hi : i < 60) (h : FullS count (min i (count - spare)) S) {b : Bs} (hb : b.length ≤ 200) :
    S.roomy b spare = decide (i < count - spare) ∧ LogB 0 S := by
  have h1 := h.roomy hb spare
  have h2 := h.bounds (by omega) (by omega) (by omega)
  refine ⟨?_, h2⟩
  rw [h1]
  congr 1
  rw [eq_iff_iff]
  omega
set_option maxRecDepth 100000 in
set_option maxHeartbeats 8000000 in
theorem walFull_in (count spare : Nat) (h1 : 8 ≤ count) (h2 : count ≤ 40) (h3 : spare ≤ 60) {w : World} (hW : HalfW w) (hw0 : 0 < w.heap.size) :
    Calls Tryz.prog 3 #[.int .i64 (count : Int), .int .i64 (spare : Int)] w fun e w' => e = .returned (.bool true) ∧ Below w.heap.size w w' := by
  have hmade := made_ok (bz := w.heap.size) w count h1 (by omega) hW hw0 (Nat.le_refl _)
  have a1 : (8 : Int) ≤ (count : Int) := by omega
  have a2 : (count : Int) ≤ 40 := by omega
  have a3 : (0 : Int) ≤ (spare : Int) := by omega
  have a4 : (spare : Int) ≤ 60 := by omega
  have HW := Lib.hid hW
  have H1 := Lib.hid h1
  have H2 := Lib.hid h2
  have H3 := Lib.hid h3
  have HW0 := Lib.hid hw0
  have HMD := Lib.hid hmade
  clear hmade hW h1 h2 h3 hw0
  go_enter Tryz.func3, Tryz.ntmps3
  go_wp2_with fail
  refine HMD.out.mono ?_
  rintro e w1 ⟨l, p, rfl, hL1, hU1, hf1, hl1⟩
  have HL1 := Lib.hid hL1
  have HU1 := Lib.hid hU1
  clear hL1 hU1 hf1 HMD
  go_wp2_with fail
  go_loopw [7] (fun s7 wr => ∃ (i : Nat) (p' : DkP) (S : LogS), s7 = .int .i64 (i : Int) ∧ i ≤ 60 ∧ LogAt w.heap.size wr l p' S ∧ FullS count (min i (count - spare)) S ∧ HalfW wr ∧ Upd (LogF w.heap.size w1) w1 wr) (fun s7 _ => 60 - (intOf s7).toNat)
  case atStart => exact ⟨0, p, log0 count, rfl, by omega, HL1.out, by rw [Nat.zero_min]; exact FullS.start count, HW.out.upd HU1.out id, Upd.refl _ _⟩
  case round =>
    obtain ⟨i, p', S, rfl, hi, hL, hF, hWr, hu⟩ := hrel
    have HL := Lib.hid hL
    have HF := Lib.hid hF
    have HWR := Lib.hid hWr
    have HU := Lib.hid hu
    have hwr : IntKind.i64.wrap ((count : Int) - (spare : Int)) = (count : Int) - (spare : Int) := by rw [IntWalk.i64_in _ (by omega)]
    clear hL hF hWr hu
    by_cases hi60 : i < 60
    · have hiI : (i : Int) < 60 := by omega
      have hi0 : (0 : Int) ≤ (i : Int) := by omega
      have hw1 : IntKind.i64.wrap ((i : Int) + 1) = (i : Int) + 1 := by rw [IntWalk.i64_in _ (by omega)]
      have ht : 1 ≤ (i : Int) + 1 ∧ (i : Int) + 1 ≤ 1099511627776 := by omega
      have hb := oneP_len ht
      have hrm := HF.out.next_step ⟨H1.out, H2.out⟩ hi60 (b := (oneP ((i : Int) + 1)).bytes) (by omega) (spare := spare)
      have happ : ∀ w2, Upd Nowhere wr w2 → Calls Tryz.prog 10 #[.pointer (some ⟨l, 0, none⟩), .agg (oneA ((i : Int) + 1)), .int .i64 (spare : Int)] w2 (AppP w.heap.size w2 l p' S (oneP ((i : Int) + 1)).bytes 0 (spare : Int)) := fun w2 hu2 => by
        have := append_ok (HL.out.up hu2) hrm.2 (by omega) HF.out.dwn (HWR.out.upd hu2 id) (enc_one ht w2) (by omega) (fun _ => dec_any ht) (spare : Int) (by omega)
        rw [oneA_eq] at this
        exact this
      have hadd := fun hj => HF.out.added (by have := H1.out; omega) (by have := H2.out; omega) hj (b := (oneP ((i : Int) + 1)).bytes) (by omega)
      have hfor := fun hj => HF.out.force (by have := H1.out; omega) (by have := H2.out; omega) hj (b := (oneP ((i : Int) + 1)).bytes) (by omega)
      generalize (oneP ((i : Int) + 1)).bytes = bs at *
      have HAPP := Lib.hid happ
      have HRM := Lib.hid hrm
      have HADD := Lib.hid hadd
      have HFOR := Lib.hid hfor
      have HI := Lib.hid hi60
      clear happ hrm hadd hfor hb ht hi hi60
      go_wp2_with fail
      refine (one_ok ((i : Int) + 1) wr).mono ?_
      rintro e w2 ⟨rfl, hU2⟩
      have HC := Lib.hid (HAPP.out w2 hU2)
      have HU2 := Lib.hid hU2
      clear hU2
      go_wp2_with fail
      refine HC.out.mono ?_
      rintro e w3 ⟨_, hno, hyes, hU3⟩
      have HU3 := Lib.hid hU3
      have HW3 := Lib.hid ((HWR.out.upd HU2.out id).logs HL.out.hz hU3)
      clear hU3 HC
      cases hr : S.roomy bs (spare : Int) with
      | true =>
        obtain ⟨rfl, hL3⟩ := hyes rfl hr
        have hlt : i < count - spare := by
          have := HRM.out.1
          rw [hr] at this
          simpa using this.symm
        have hltI : (i : Int) < (count : Int) - (spare : Int) := by omega
        obtain ⟨hB3, hp3⟩ := HADD.out (by omega)
        obtain ⟨hz3, hF3⟩ := HFOR.out (by omega)
        have hfc := force_ok hL3 hB3 (by omega) HF.out.dwn HW3.out (hB3.sheets_good (by omega)) (by rw [hB3.find_len, placesB_len]) hB3.find_le
        obtain ⟨⟨S', x⟩, hSx⟩ : ∃ t, (S.add bs).forceS = t := ⟨_, rfl⟩
        rw [hSx] at hfc hz3 hF3
        simp only at hz3 hF3
        subst hz3
        have HFC := Lib.hid hfc
        have HF3 := Lib.hid hF3
        have HLT := Lib.hid hlt
        clear hno hyes hr hL3 hB3 hp3 hF3 hfc hSx hlt
        go_wp2_with fail
        refine HFC.out.mono ?_
        rintro e w4 ⟨p4, _, rfl, hL4, hU4⟩
        have HL4 := Lib.hid hL4
        have HU4 := Lib.hid hU4
        clear hL4 hU4
        go_wp2_with fail
        go_roundw
        case rel =>
          have hm : min (i + 1) (count - spare) = min i (count - spare) + 1 := by have := HLT.out; omega
          exact ⟨i + 1, p4, S', by go_num, HI.out, HL4.out, by rw [hm]; exact HF3.out, HW3.out.logs HL.out.hz HU4.out, (HU.out.logs ((HU2.out.any).logs HU3.out)).logs HU4.out⟩
        case measure =>
          have := HI.out
          simp only [intOf]
          omega
      | false =>
        obtain ⟨rfl, hL3⟩ := hno rfl hr
        have hlt : ¬ i < count - spare := by
          have := HRM.out.1
          rw [hr] at this
          simpa using this.symm
        have hltI : (count : Int) - (spare : Int) ≤ (i : Int) := by omega
        have hB3 := HRM.out.2
        have hSx : S.forceS = (S, 0) := by unfold LogS.forceS; rw [if_pos (by rw [HF.out.frc, HF.out.len])]
        have hfc := force_ok hL3 hB3 (by omega) HF.out.dwn HW3.out (hB3.sheets_good (by omega)) (by rw [hB3.find_len, placesB_len]) hB3.find_le
        rw [hSx] at hfc
        have HFC := Lib.hid hfc
        have HLT := Lib.hid hlt
        clear hno hyes hr hL3 hB3 hfc hSx hlt
        go_wp2_with fail
        refine HFC.out.mono ?_
        rintro e w4 ⟨p4, _, rfl, hL4, hU4⟩
        have HL4 := Lib.hid hL4
        have HU4 := Lib.hid hU4
        clear hL4 hU4
        go_wp2_with fail
        go_roundw
        case rel =>
          have hm : min (i + 1) (count - spare) = min i (count - spare) := by have := HLT.out; omega
          exact ⟨i + 1, p4, S, by go_num, HI.out, HL4.out, by rw [hm]; exact HF.out, HW3.out.logs HL.out.hz HU4.out, (HU.out.logs ((HU2.out.any).logs HU3.out)).logs HU4.out⟩
        case measure =>
          have := HI.out
          simp only [intOf]
          omega
    · obtain rfl : i = 60 := by omega
      obtain ⟨j, hj⟩ : ∃ j, min 60 (count - spare) = j := ⟨_, rfl⟩
      have hF := HF.out
      rw [hj] at hF
      have hjc : j ≤ count := by omega
      have hB := hF.bounds (by have := H1.out; omega) (by have := H2.out; omega) hjc
      have hlast : ∀ w', Upd Nowhere wr w' → Calls Tryz.prog 13 #[.pointer (some ⟨l, 0, none⟩)] w' fun e w'' => e = .returned (.int .i64 (j : Int)) ∧ Upd Nowhere w' w'' := fun w' hu => by
        have := wlast_ok (HL.out.up hu) hB (by omega) hF.dwn
        rw [hF.mst, hF.len, show mast2.lsn + (j : Int) - 1 = (j : Int) by simp only [mast2]; omega] at this
        exact this
      have hused : ∀ w', Upd Nowhere wr w' → Calls Tryz.prog 14 #[.pointer (some ⟨l, 0, none⟩)] w' fun e w'' => e = .returned (.int .i64 (j : Int)) ∧ Upd Nowhere w' w'' := fun w' hu => by
        have := wused_ok (HL.out.up hu) hB (by omega) hF.dwn (HWR.out.upd hu id)
        have e0 : (S.sheets S.pendB).length = 0 := by rw [LogS.sheets_len, layAll_fst, hF.pend]; rfl
        rw [e0, hF.mst, hF.nxt, show (j : Int) - mast2.first + ((0 : Nat) : Int) = (j : Int) by simp only [mast2]; omega] at this
        exact this
      obtain ⟨M, hM⟩ : ∃ M : Int, (if (60 : Int) < (count : Int) - (spare : Int) then (60 : Int) else (count : Int) - (spare : Int)) = M := ⟨_, rfl⟩
      have hmin : ∀ (ts : Array TypeId) (t : TypeId) (W : World), (Builtin.min_ ts t #[.int .i64 ((count : Int) - (spare : Int)), .int .i64 60]).run Tryz.prog W = .ok (.int .i64 M) W := fun ts t W => by
        simp [Builtin.min_, Builtin.min2, hM]
      have hmax : ∀ (ts : Array TypeId) (t : TypeId) (W : World), (Builtin.max_ ts t #[.int .i64 0, .int .i64 M]).run Tryz.prog W = .ok (.int .i64 (j : Int)) W := fun ts t W => by
        have e : (if (0 : Int) < M then M else (0 : Int)) = (j : Int) := by
          rw [← hM]
          split <;> split <;> omega
        simp [Builtin.max_, Builtin.max2, e]
      have HLA := Lib.hid hlast
      have HUS := Lib.hid hused
      clear hF hjc hB hlast hused hM hj hi hi60
      go_wp2_with fail
      refine (HLA.out wr (Upd.refl _ _)).mono ?_
      rintro e w2 ⟨rfl, hU2⟩
      have HC := Lib.hid (HUS.out w2 hU2)
      have HU2 := Lib.hid hU2
      clear hU2
      go_wp2_with fail
      refine HC.out.mono ?_
      rintro e w3 ⟨rfl, hU3⟩
      have HA := Lib.hid (awake09_ok (w := w3) (((HWR.out.upd HU2.out id).upd hU3 id)))
      have HU3 := Lib.hid hU3
      clear hU3 HC
      go_wp2_with fail
      refine HA.out.mono ?_
      rintro e w4 ⟨rfl, hb4⟩
      have HB4 := Lib.hid hb4
      clear hb4 HA
      go_wp2_with fail
      go_ret
      refine ⟨rfl, ?_⟩
      have hu : Upd (LogF w.heap.size w1) w1 w4 := (HU.out.same ((HU2.out.same HU3.out).any)).same (Upd.ofBelow HB4.out _)
      have h1 : Upd Nowhere w w4 := HU1.out.trans hu fun k hk e => by
        have := e.1
        omega
      exact h1.toBelow fun _ _ => id
end Go.Proofs.YtljmmkjdlcfkpaaGreatDoor

/-
  WalFull: the law for all numbers.
-/
namespace Go.Proofs.YtljmmkjdlcfkpaaGreatDoor
open Go Go.RowKit

set_option maxRecDepth 100000 in
set_option maxHeartbeats 2000000 in
theorem walFull_out (x y : Int) (w : World) (hW : HalfW w) (h : ¬ (8 ≤ x ∧ x ≤ 40 ∧ 0 ≤ y ∧ y ≤ 60)) : Calls Tryz.prog 3 #[.int .i64 x, .int .i64 y] w fun e w' => e = .returned (.bool true) ∧ Below w.heap.size w w' := by
  have HA := Lib.hid (awake09_ok (w := w) hW)
  clear hW
  by_cases h1 : 8 ≤ x
  · by_cases h2 : x ≤ 40
    · by_cases h3 : 0 ≤ y
      · have h4 : 60 < y := by omega
        clear h
        go_enter Tryz.func3, Tryz.ntmps3
        go_wp2_with fail
        refine HA.out.mono ?_
        rintro e w2 ⟨rfl, hb⟩
        have HB := Lib.hid hb
        clear hb
        go_wp2_with fail
        go_ret
        exact ⟨rfl, HB.out⟩
      · have h4 : y < 0 := by omega
        clear h
        go_enter Tryz.func3, Tryz.ntmps3
        go_wp2_with fail
        refine HA.out.mono ?_
        rintro e w2 ⟨rfl, hb⟩
        have HB := Lib.hid hb
        clear hb
        go_wp2_with fail
        go_ret
        exact ⟨rfl, HB.out⟩
    · have h4 : 40 < x := by omega
      clear h
      go_enter Tryz.func3, Tryz.ntmps3
      go_wp2_with fail
      refine HA.out.mono ?_
      rintro e w2 ⟨rfl, hb⟩
      have HB := Lib.hid hb
      clear hb
      go_wp2_with fail
      go_ret
      exact ⟨rfl, HB.out⟩
  · have h4 : x < 8 := by omega
    clear h
    go_enter Tryz.func3, Tryz.ntmps3
    go_wp2_with fail
    refine HA.out.mono ?_
    rintro e w2 ⟨rfl, hb⟩
    have HB := Lib.hid hb
    clear hb
    go_wp2_with fail
    go_ret
    exact ⟨rfl, HB.out⟩
theorem walFull_walk (x y : Int) (w : World) (hW : HalfAt w) : Calls Tryz.prog 3 #[.int .i64 x, .int .i64 y] w fun e w' => e = .returned (.bool true) ∧ Below w.heap.size w w' := by
  by_cases h : 8 ≤ x ∧ x ≤ 40 ∧ 0 ≤ y ∧ y ≤ 60
  · obtain ⟨c, rfl⟩ := Int.eq_ofNat_of_zero_le (by omega : 0 ≤ x)
    obtain ⟨s, rfl⟩ := Int.eq_ofNat_of_zero_le (by omega : 0 ≤ y)
    obtain ⟨ty, fz, hw⟩ := hW
    exact walFull_in c s (by omega) (by omega) (by omega) ⟨ty, fz, hw⟩ (lt_of_heap hw)
  · exact walFull_out x y w hW h
end Go.Proofs.YtljmmkjdlcfkpaaGreatDoor
