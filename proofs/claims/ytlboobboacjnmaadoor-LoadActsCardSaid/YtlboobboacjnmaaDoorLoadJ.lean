/-
  The load of a seed and a mix: load.Acts.
-/
import Derived.Test.YtlboobboacjnmaaDoorLoadD
import Derived.Test.YtlboobboacjnmaaDoorLoadI
namespace Go.Proofs.YtlboobboacjnmaaDoor
open Go Go.RowKit

/-- The seed, and the acts, behind so many transactions. -/
def acX (m : MixD) (x : Int) : Nat → Int
  | 0 => x
  | k + 1 => txX m (acX m x k)
def acL (m : MixD) (x : Int) : Nat → List ActD
  | 0 => []
  | k + 1 => acL m x k ++ txL m k (acX m x k)
theorem acL_length (m : MixD) (x : Int) (hs : m.steps ≤ 20) (k : Nat) : (acL m x k).length ≤ 83 * k := by
  induction k with
  | zero => simp [acL]
  | succ k ih =>
    have := txL_length m k (acX m x k) hs
    simp only [acL, List.length_append]
    omega
theorem may_parts (m : MixD) (h : mayB m = true) : 0 < m.keys ∧ m.keys ≤ 100 ∧ 0 < m.nodes ∧ 0 ≤ m.steps ∧ m.steps ≤ 20 ∧ 0 ≤ m.txs ∧ m.txs ≤ 50 := by
  simp only [mayB, inR, Bool.and_eq_true, decide_eq_true_eq] at h
  omega
/-- The seed that a load begins with. -/
def x0 (x : Int) : Int := IntKind.u64.wrap (x + 1)
set_option maxHeartbeats 4000000 in
set_option maxRecDepth 100000 in
theorem acts_no (x : Int) (m : MixD) (w : World) (hm : mayB m = false) : Calls Tryd.prog 4 #[.int .u64 x, m.val] w fun e w' => e = .returned (.tuple #[.slice none 0 0, .int .i64 1]) ∧ Upd Nowhere w w' := by
  have HU := Lib.hid ((Upd.refl Nowhere w).alloc (.cells #[.int .i64 m.nodes, .int .i64 m.txs, .int .i64 m.steps, .int .i64 m.keys, .int .i64 m.writes, .int .i64 m.quits, .int .i64 m.drops, .int .i64 m.falls] 24))
  have hb := (Blk.new w 24 #[.int .i64 m.nodes, .int .i64 m.txs, .int .i64 m.steps, .int .i64 m.keys, .int .i64 m.writes, .int .i64 m.quits, .int .i64 m.drops, .int .i64 m.falls]).cell
  unfold MixD.val
  go_enter Tryd.func4, Tryd.ntmps4
  go_wp2_with fail
  refine (lmay_ok m _).mono ?_
  rintro e w1 ⟨rfl, hu⟩
  rw [hm]
  have HU1 := Lib.hid (HU.out.trans hu fun _ _ h => h)
  clear hu hb
  go_wp2_with fail
  go_ret2
  exact ⟨rfl, HU1.out⟩
set_option maxHeartbeats 4000000 in
set_option maxRecDepth 100000 in
theorem acts_ok (x : Int) (m : MixD) (w : World) (hm : mayB m = true) : Calls Tryd.prog 4 #[.int .u64 x, m.val] w fun e w' => ∃ A c, e = .returned (.tuple #[.slice A (acL m (x0 x) m.txs.toNat).length c, .int .i64 0]) ∧
    w'.ownsRow w.heap.size 39 11 (.slice A (acL m (x0 x) m.txs.toNat).length c) (acL m (x0 x) m.txs.toNat).length (flatA (acL m (x0 x) m.txs.toNat)) ∧ Upd Nowhere w w' := by
  obtain ⟨hk0, hk1, hn0, hs0, hs1, ht0, ht1⟩ := may_parts m hm
  have HU := Lib.hid ((Upd.refl Nowhere w).alloc (.cells #[.int .i64 m.nodes, .int .i64 m.txs, .int .i64 m.steps, .int .i64 m.keys, .int .i64 m.writes, .int .i64 m.quits, .int .i64 m.drops, .int .i64 m.falls] 24))
  have HB0 := Lib.hid (Blk.new w 24 #[.int .i64 m.nodes, .int .i64 m.txs, .int .i64 m.steps, .int .i64 m.keys, .int .i64 m.writes, .int .i64 m.quits, .int .i64 m.drops, .int .i64 m.falls])
  have hb := HB0.out.cell
  unfold MixD.val
  go_enter Tryd.func4, Tryd.ntmps4
  go_wp2_with fail
  refine (lmay_ok m _).mono ?_
  rintro e w1 ⟨rfl, hu⟩
  rw [hm]
  have HU1 := Lib.hid (HU.out.trans hu fun _ _ h => h)
  have hb1 := (HB0.out.upd hu id).cell
  have lb1 := (HB0.out.upd hu id).lt
  clear hu hb
  have hv : x0 x = IntKind.u64.wrap (x + 1) := rfl
  have HV := Lib.hid hv
  clear hv
  go_wp2_with fail
  rw [← HV.out]
  have HM0 : Hid (MkP ((w1.alloc (.cells #[.int .u64 (x0 x)] 41)).alloc (.cells #[.int .i64 m.nodes, .int .i64 m.txs, .int .i64 m.steps, .int .i64 m.keys, .int .i64 m.writes, .int .i64 m.quits, .int .i64 m.drops, .int .i64 m.falls, .func (.func 10) #[.pointer (some ⟨w1.heap.size, 0, none⟩)] #[], .slice none 0 0] 45)) (w1.heap.size + 1) w1.heap.size m (x0 x) (.slice none 0 0) []) := Lib.hid ⟨Blk.new' _ _ _ (by rw [World.size_alloc]), (Blk.new _ _ _).alloc _, World.ownsRow_nil _ _ _ _⟩
  have HU4 : Hid (Upd Nowhere w ((w1.alloc (.cells #[.int .u64 (x0 x)] 41)).alloc (.cells #[.int .i64 m.nodes, .int .i64 m.txs, .int .i64 m.steps, .int .i64 m.keys, .int .i64 m.writes, .int .i64 m.quits, .int .i64 m.drops, .int .i64 m.falls, .func (.func 10) #[.pointer (some ⟨w1.heap.size, 0, none⟩)] #[], .slice none 0 0] 45))) := Lib.hid ((HU1.out.alloc _).alloc _)
  have HS4 : Hid (w.heap.size ≤ w1.heap.size) := Lib.hid HU1.out.size
  clear hb1 lb1 HB0 HU HU1 HV
  generalize ((w1.alloc (.cells #[.int .u64 (x0 x)] 41)).alloc (.cells #[.int .i64 m.nodes, .int .i64 m.txs, .int .i64 m.steps, .int .i64 m.keys, .int .i64 m.writes, .int .i64 m.quits, .int .i64 m.drops, .int .i64 m.falls, .func (.func 10) #[.pointer (some ⟨w1.heap.size, 0, none⟩)] #[], .slice none 0 0] 45)) = w4 at *
  have HG0 := Lib.hid (Goes.refl HM0.out)
  go_loopw [20] (fun t wr => ∃ k : Nat, (k : Int) ≤ m.txs ∧ t = .int .i64 k ∧ Goes w4 (w1.heap.size + 1) w1.heap.size m (.slice none 0 0) (acX m (x0 x) k) (acL m (x0 x) k) wr) (fun t _ => m.txs.toNat - (intOf t).toNat)
  case atStart => exact ⟨0, by omega, rfl, HG0.out⟩
  case round =>
    obtain ⟨k, hk, rfl, hG⟩ := hrel
    obtain ⟨v3, hM3, hgo3⟩ := hG.open_
    have hl3 := acL_length m (x0 x) hs1 k
    by_cases hlt : (k : Int) < m.txs
    · have HM3 := Lib.hid hM3
      have HG3 := Lib.hid hgo3
      clear hG hM3 hgo3
      go_wp2_with fail
      refine (tx_ok _ _ m _ v3 _ k wr HM3.out hk0 hk1 hn0 hs0 hs1 (by omega) (by omega)).mono ?_
      rintro e w5 ⟨rfl, hg5⟩
      have HG5 := Lib.hid (HG3.out.goes hg5)
      clear hg5 HM3 HG3
      go_wp2_with fail
      go_roundw
      case rel => exact ⟨k + 1, by omega, by go_num, HG5.out⟩
      case measure => simp [intOf]; omega
    · have e : ¬ (k : Int) < m.txs := by omega
      obtain rfl : k = m.txs.toNat := by omega
      obtain ⟨A, c, rfl⟩ := own_form hM3.row
      have cb3 := hM3.blk.cell
      have HM3 := Lib.hid hM3
      have HG3 := Lib.hid hgo3
      clear hG hM3 hgo3
      go_wp2_with fail
      go_ret2
      refine ⟨A, c, rfl, own_base HM3.out.row _ (fun k hk => ?_), HU4.out.trans HG3.out.2 fun k hk hf => ?_⟩
      · rcases HG3.out.1 k hk with h | h
        · cases h
        · have := HU4.out.size; omega
      · have := HS4.out
        rcases hf with h | h | h
        · omega
        · omega
        · cases h
end Go.Proofs.YtlboobboacjnmaaDoor
