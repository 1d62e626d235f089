/-
  The walk of NetFull.
-/
import Derived.Test.YtnlidhclieipiaaNetG
namespace Go.Proofs.Ytnlidhclieipiaa
open Go Go.RowKit

theorem reads_nil (w : World) : Reads w 1 (.slice none 0 0) ([] : List UInt8).length (bytesV []) := ⟨none, 0, rfl, Nat.le_refl _, rfl, fun h => absurd h (by decide)⟩

/-- What the net holds ahead of round k. -/
def FullRel (w : World) (bn c k : Nat) (wr : World) : Prop :=
  Below w.heap.size w wr ∧ ∃ L, NetP wr bn c L (((k - 256 : Nat) : Int)) ∧ L.length = min k 256

theorem full_step {w : World} {bn c k : Nat} {wr w' : World} {F : Nat → Prop} (h : FullRel w bn c k wr) (hu : Upd F wr w') (hF : ∀ k, F k → w.heap.size ≤ k) (hn : ∃ L, NetP w' bn c L (((k + 1 - 256 : Nat) : Int)) ∧ L.length = min (k + 1) 256) : FullRel w bn c (k + 1) w' :=
  ⟨Upd.onto h.1 hu hF h.1.size, hn⟩

set_option maxHeartbeats 2000000 in
theorem netFull_bad (a b : Int) (w : World) (h : a < 0 ∨ (0 ≤ a ∧ 300 < a) ∨ (0 ≤ a ∧ a ≤ 300 ∧ b < 0) ∨ (0 ≤ a ∧ a ≤ 300 ∧ 0 ≤ b ∧ 3 < b)) :
    Calls Try.prog 4 #[.int .i64 a, .int .i64 b] w fun e w' => e = .returned (.bool true) ∧ Below w.heap.size w w' := by
  rcases h with h | ⟨h1, h2⟩ | ⟨h1, h2, h3⟩ | ⟨h1, h2, h3, h4⟩
  all_goals
    go_enter Try.func4, Try.ntmps4
    go_wp2_with fail
    refine (awake_ok _).mono ?_
    rintro e w1 ⟨rfl, hb⟩
    go_wp2
    go_ret
    exact ⟨rfl, hb⟩

theorem run_make_bytes (b : Int) (m : Nat) (hm : (m : Int) = 4095 + b) (hb : b ≤ 3) (u : World) : (Instr.makeSlice 26 (.int .i64 (4095 + b)) (.int .i64 (4095 + b))).run Try.prog u =
    .ok (.slice (some ⟨u.heap.size, 0, none⟩) m m) (u.alloc (.cells (madeCells #[.int .u8 0] m) 5)) := by
  obtain ⟨i, hi, hz, hs, hby⟩ := info_parts info_byte
  have h := run_make (P := Try.prog) u 26 5 i (.int .u8 0) Try.underlying26 hi hz .i64 .i64 (4095 + b) (4095 + b) (by omega) (Int.le_refl _) (by rw [hby]; omega) (by omega)
  rw [show (4095 + b).toNat = m by omega, hs, Nat.mul_one] at h
  exact h
theorem reads_made (w : World) (m : Nat) : Reads (w.alloc (.cells (madeCells #[.int .u8 0] m) 5)) 1 (.slice (some ⟨w.heap.size, 0, none⟩) m m) (List.replicate m (0 : UInt8)).length (bytesV (List.replicate m 0)) := by
  rw [List.length_replicate]
  refine ⟨_, m, rfl, Nat.le_refl _, by simp [bytesV], fun _ => ⟨_, rfl, by simp, rfl, fun j u hj => ?_⟩⟩
  have hj' : j < m ∧ byteV 0 = u := by
    simp only [bytesV, List.map_replicate] at hj
    rw [List.getElem?_replicate] at hj
    split at hj
    · exact ⟨by assumption, by simpa using hj⟩
    · cases hj
  obtain ⟨hlt, rfl⟩ := hj'
  have e : (⟨w.heap.size, 0, none⟩ : Addr).add j = ⟨w.heap.size, j, none⟩ := by unfold Addr.add; split <;> simp_all
  rw [e, (Blk.new w 5 _).cell j]
  simp [madeCells, hlt, byteV, Nat.mod_one]

set_option maxHeartbeats 4000000 in
set_option maxRecDepth 100000 in
theorem netFull_walk (a : Nat) (b : Int) (w : World) (ha : a ≤ 300) (hb0 : 0 ≤ b) (hb3 : b ≤ 3) :
    Calls Try.prog 4 #[.int .i64 a, .int .i64 b] w fun e w' => e = .returned (.bool true) ∧ Below w.heap.size w w' := by
  have hnn : 0 ≤ (a : Int) := by omega
  have d1 : decide ((a : Int) < 0) = false := by simp
  have d2 : decide (300 < (a : Int)) = false := by simp; omega
  have d3 : decide (b < 0) = false := by simp; omega
  have d4 : decide (3 < b) = false := by simp; omega
  go_enter Try.func4, Try.ntmps4
  go_wp2_with fail
  refine (new_ok _).mono ?_
  rintro e w1 ⟨rfl, hw1⟩
  have hn1 : NetP w1 (w.heap.size + 1) w.heap.size [] 0 := by rw [hw1]; exact NetP.new w
  have hb1 : Below w.heap.size w w1 := by rw [hw1]; exact ((Below.refl _ _).alloc (Nat.le_refl _) _).alloc (by simp) _
  have HR := Lib.hid (show FullRel w (w.heap.size + 1) w.heap.size 0 w1 from ⟨hb1, [], hn1, rfl⟩)
  clear hn1 hb1 hw1
  go_wp2_with fail
  go_loopw [6] (fun t wr => ∃ k : Nat, k ≤ a ∧ t = .int .i64 k ∧ FullRel w (w.heap.size + 1) w.heap.size k wr) (fun t _ => a - (intOf t).toNat)
  case atStart => exact ⟨0, Nat.zero_le _, rfl, HR.out⟩
  case round =>
    clear HR
    obtain ⟨k, hk, rfl, hrel⟩ := hrel
    have HR := Lib.hid hrel
    obtain ⟨hbel, L, hn, hL⟩ := hrel
    have HN := Lib.hid hn
    have HL := Lib.hid hL
    have hsz := hbel.size
    clear hbel hn hL
    by_cases hlt : k < a
    · by_cases h256 : k < 256
      · have d5 : decide ((k : Int) < 256) = true := by simp; omega
        go_wp2_with fail
        refine (send_okP _ _ L _ ⟨0, k, [], false⟩ (.slice none 0 0) _ HN.out (reads_nil _) (Nat.zero_le _) (by rw [HL.out]; omega)).mono ?_
        rintro e w2 ⟨v', rfl, hn2, _, hu⟩
        have HS := Lib.hid (full_step HR.out hu (fun k hk => Nat.le_of_eq hk.symm) ⟨_, by simpa [show k - 255 = 0 by omega, show k - 256 = 0 by omega] using hn2, by simp [HL.out]; omega⟩)
        clear hn2 hu HR HN HL
        go_wp2
        go_roundw
        case rel => exact ⟨k + 1, by omega, by go_num, HS.out⟩
        case measure => simp [intOf]; omega
      · have d5 : decide ((k : Int) < 256) = false := by simp; omega
        go_wp2_with fail
        refine (send_fullP _ _ L _ ⟨0, k, [], false⟩ (.slice none 0 0) _ HN.out (reads_nil _) (Nat.zero_le _) (by rw [HL.out]; omega) (by omega) (by omega)).mono ?_
        rintro e w2 ⟨rfl, hn2, hu⟩
        have HS := Lib.hid (full_step HR.out hu (fun k hk => by omega) ⟨L, by rw [show ((k + 1 - 256 : Nat) : Int) = ((k - 256 : Nat) : Int) + 1 by omega]; exact hn2, by rw [HL.out]; omega⟩)
        clear hn2 hu HR HN HL
        go_wp2
        go_roundw
        case rel => exact ⟨k + 1, by omega, by go_num, HS.out⟩
        case measure => simp [intOf]; omega
    · obtain rfl : k = a := by omega
      by_cases h256 : k < 256
      · have hm : max 0 ((k : Int) - 256) = 0 := by omega
        have hm2 : min (k : Int) 256 = k := by omega
        go_wp2_with fail
        refine (len_okP HN.out).mono ?_
        rintro e w2 ⟨rfl, rfl⟩
        rw [HL.out, show min k 256 = k by omega]
        go_wp2_with fail
        refine (lost_okP HN.out).mono ?_
        rintro e w2 ⟨rfl, rfl⟩
        rw [show k - 256 = 0 by omega]
        obtain ⟨m, hm⟩ : ∃ m : Nat, (m : Int) = 4095 + b := ⟨(4095 + b).toNat, by omega⟩
        have hmk := run_make_bytes b m hm hb3
        have HM := Lib.hid hm
        have hm9 : m ≤ 4098 := by omega
        clear hm
        by_cases hbb : b < 2
        · have d6 : decide (b < 2) = true := by simp; omega
          have hm6 : m ≤ 4096 := by have := HM.out; omega
          go_wp2_with fail
          refine (send_okP _ _ L _ ⟨0, 0, List.replicate m 0, false⟩ _ _ (HN.out.upd ((Upd.refl Nowhere wr).alloc _) fun _ _ => id) (reads_made wr m) (by simpa using hm6) (by rw [HL.out]; omega)).mono ?_
          rintro e w2 ⟨v', rfl, hn2, _, hu⟩
          have HN2 := Lib.hid hn2
          have HB2 := Lib.hid (Upd.onto (HR.out.1.alloc hsz _) hu (fun k hk => Nat.le_of_eq hk.symm) (by simp; omega))
          have hsz2 := HB2.out.size
          clear hn2 hu HR HN HL hmk
          go_wp2_with fail
          refine (lost_okP HN2.out).mono ?_
          rintro e w3 ⟨rfl, rfl⟩
          rw [show k - 256 = 0 by omega]
          go_wp2_with fail
          refine (awake_ok _).mono ?_
          rintro e w3 ⟨rfl, hb⟩
          have HB3 := Lib.hid (HB2.out.trans (hb.mono hsz2))
          clear hb
          go_wp2
          go_ret
          exact ⟨rfl, HB3.out⟩
        · have d6 : decide (b < 2) = false := by simp; omega
          have hm6 : 4096 < m := by have := HM.out; omega
          go_wp2_with fail
          have hrd := reads_made wr m
          rw [List.length_replicate] at hrd
          refine (send_long _ _ (vals L) _ 0 0 false _ m _ _ (HN.out.upd ((Upd.refl Nowhere wr).alloc _) fun _ _ => id).net hrd hm6 (by omega)).mono ?_
          rintro e w2 ⟨rfl, hu⟩
          have HN2 := Lib.hid ((HN.out.upd ((Upd.refl Nowhere wr).alloc _) fun _ _ => id).upd hu fun _ _ => id)
          have HB2 := Lib.hid (Upd.onto (HR.out.1.alloc hsz _) hu (fun k hk => hk.elim) (by simp; omega))
          have hsz2 := HB2.out.size
          clear hu HR HN HL hmk hrd
          go_wp2_with fail
          refine (lost_okP HN2.out).mono ?_
          rintro e w3 ⟨rfl, rfl⟩
          rw [show k - 256 = 0 by omega]
          go_wp2_with fail
          refine (awake_ok _).mono ?_
          rintro e w3 ⟨rfl, hb⟩
          have HB3 := Lib.hid (HB2.out.trans (hb.mono hsz2))
          clear hb
          go_wp2
          go_ret
          exact ⟨rfl, HB3.out⟩
      · have hge : (256 : Int) ≤ k := by omega
        by_cases h7 : 256 < k
        · have h7' : 256 < (k : Int) := by omega
          go_wp2_with fail
          refine (len_okP HN.out).mono ?_
          rintro e w2 ⟨rfl, rfl⟩
          rw [HL.out, show min k 256 = 256 by omega]
          go_wp2_with fail
          refine (lost_okP HN.out).mono ?_
          rintro e w2 ⟨rfl, rfl⟩
          rw [show ((k - 256 : Nat) : Int) = (k : Int) - 256 by omega]
          go_wp2_with fail
          obtain ⟨x, hx⟩ : ∃ x, L[0]? = some x := ⟨_, List.getElem?_eq_getElem (by rw [HL.out]; omega)⟩
          refine (twice_full _ _ L _ _ 0 x HN.out hx (by rw [HL.out]; omega) (by omega) (by omega)).mono ?_
          rintro e w2 ⟨rfl, hn2, hu⟩
          have HN2 := Lib.hid hn2
          have HB2 := Lib.hid (Upd.onto HR.out.1 hu (fun k hk => by omega) hsz)
          have hsz2 := HB2.out.size
          clear hn2 hu HR HN HL hx
          go_wp2_with fail
          refine (lost_okP HN2.out).mono ?_
          rintro e w3 ⟨rfl, rfl⟩
          rw [show ((k - 256 : Nat) : Int) = (k : Int) - 256 by omega]
          go_wp2_with fail
          refine (awake_ok _).mono ?_
          rintro e w3 ⟨rfl, hb⟩
          have HB3 := Lib.hid (HB2.out.trans (hb.mono hsz2))
          clear hb
          go_wp2
          go_ret
          exact ⟨rfl, HB3.out⟩
        · have h7' : ¬ 256 < (k : Int) := by omega
          go_wp2_with fail
          refine (len_okP HN.out).mono ?_
          rintro e w2 ⟨rfl, rfl⟩
          rw [HL.out, show min k 256 = 256 by omega]
          go_wp2_with fail
          refine (lost_okP HN.out).mono ?_
          rintro e w2 ⟨rfl, rfl⟩
          rw [show ((k - 256 : Nat) : Int) = 0 by omega]
          go_wp2_with fail
          obtain ⟨x, hx⟩ : ∃ x, L[0]? = some x := ⟨_, List.getElem?_eq_getElem (by rw [HL.out]; omega)⟩
          refine (twice_full _ _ L _ _ 0 x HN.out hx (by rw [HL.out]; omega) (by omega) (by omega)).mono ?_
          rintro e w2 ⟨rfl, hn2, hu⟩
          have HN2 := Lib.hid hn2
          have HB2 := Lib.hid (Upd.onto HR.out.1 hu (fun k hk => by omega) hsz)
          have hsz2 := HB2.out.size
          clear hn2 hu HR HN HL hx
          go_wp2_with fail
          refine (lost_okP HN2.out).mono ?_
          rintro e w3 ⟨rfl, rfl⟩
          rw [show ((k - 256 : Nat) : Int) = 0 by omega]
          go_wp2_with fail
          refine (awake_ok _).mono ?_
          rintro e w3 ⟨rfl, hb⟩
          have HB3 := Lib.hid (HB2.out.trans (hb.mono hsz2))
          clear hb
          go_wp2
          go_ret
          exact ⟨rfl, HB3.out⟩
end Go.Proofs.Ytnlidhclieipiaa
