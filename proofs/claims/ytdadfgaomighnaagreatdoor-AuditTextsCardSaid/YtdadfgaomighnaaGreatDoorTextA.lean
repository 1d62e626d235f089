/-
  Decimal numbers: the reference's Digits and Signed.
-/
import Derived.Test.YtdadfgaomighnaaGreatDoorLib
import Derived.Test.YtdadfgaomighnaaGreatDoorProg
import Derived.Lib.ItoaNum
import Derived.Laws.Concat
namespace Go.Proofs.YtdadfgaomighnaaGreatDoor
open Go Go.RowKit

def decB (n : Nat) : ByteArray := ⟨(Lib.decDigits n).toArray⟩
def itoaB (n : Int) : ByteArray := ⟨(Lib.itoa n).toArray⟩
theorem ba_app (a b : List UInt8) : (⟨a.toArray⟩ : ByteArray) ++ ⟨b.toArray⟩ = ⟨(a ++ b).toArray⟩ := by
  apply ByteArray.ext
  simp [ByteArray.data_append]
theorem decB_one {n : Nat} (h : n < 10) : decB n = ⟨#[UInt8.ofNat (48 + n)]⟩ := by unfold decB; rw [Lib.decDigits_one h]
theorem decB_more {n : Nat} (h : ¬ n < 10) : decB n = decB (n / 10) ++ decB (n % 10) := by
  unfold decB
  rw [ba_app, Lib.decDigits_one (by omega : n % 10 < 10)]
  conv => lhs; rw [Lib.decDigits, dif_neg h]
theorem decDigits_len (n : Nat) : (Lib.decDigits n).length ≤ n + 1 := by
  induction n using Nat.strongRecOn with
  | _ n ih =>
    by_cases h : n < 10
    · rw [Lib.decDigits_one h]; simp
    · rw [Lib.decDigits, dif_neg h, List.length_append, List.length_singleton]
      have := ih (n / 10) (by omega)
      omega
theorem decB_size (n : Nat) (k : Nat) (h : n < 10 ^ k) : (decB n).size ≤ k + 1 := by
  show (Lib.decDigits n).toArray.size ≤ k + 1
  rw [List.size_toArray]
  induction k generalizing n with
  | zero => simp at h; subst h; rw [Lib.decDigits_one (by omega)]; simp
  | succ k ih =>
    by_cases h1 : n < 10
    · rw [Lib.decDigits_one h1]; simp
    · rw [Lib.decDigits, dif_neg h1, List.length_append, List.length_singleton]
      have := ih (n / 10) (by rw [Nat.pow_succ] at h; omega)
      omega

set_option maxRecDepth 100000
set_option maxHeartbeats 1000000 in
theorem digits_one (n : Nat) (hn : n < 10) (w : World) : Calls Tryz.prog 38 #[.int .i64 n] w fun e w' => e = .returned (.string (decB n)) ∧ w = w' := by
  rw [decB_one hn]
  rcases (by omega : n = 0 ∨ n = 1 ∨ n = 2 ∨ n = 3 ∨ n = 4 ∨ n = 5 ∨ n = 6 ∨ n = 7 ∨ n = 8 ∨ n = 9) with rfl | rfl | rfl | rfl | rfl | rfl | rfl | rfl | rfl | rfl
  all_goals
    clear hn
    go_enter Tryz.func38, Tryz.ntmps38
    go_wp2
    go_ret
    exact ⟨rfl, rfl⟩
set_option maxHeartbeats 1000000 in
theorem digits_ok : ∀ (n : Nat), n ≤ 9223372036854775807 → ∀ w : World, Calls Tryz.prog 38 #[.int .i64 n] w fun e w' => e = .returned (.string (decB n)) ∧ w = w' := by
  intro n
  induction n using Nat.strongRecOn with
  | _ n ih =>
    intro hn w
    by_cases h : n < 10
    · exact digits_one n h w
    · have hc : ∀ W, (Op.stringOp .add (decB (n / 10)) (decB (n % 10))).run Tryz.prog W = .ok (.string (decB n)) W := fun W => by
        rw [decB_more h]
        have h1 := decB_size (n / 10) 19 (Nat.lt_of_lt_of_le (show n / 10 < 10000000000000000000 by omega) (Nat.le_of_eq (by rfl)))
        have h2 := decB_size (n % 10) 1 (Nat.lt_of_lt_of_le (show n % 10 < 10 by omega) (Nat.le_of_eq (by rfl)))
        exact run_string_add_sum W (decB (n / 10)) (decB (n % 10)) (by omega)
      have e1 : (n : Int) / 10 = ((n / 10 : Nat) : Int) := by omega
      have e2 : (n : Int) % 10 = ((n % 10 : Nat) : Int) := by omega
      have i1 : Hid (Calls Tryz.prog 38 #[.int .i64 ((n : Int) / 10)] w fun e w' => e = .returned (.string (decB (n / 10))) ∧ w = w') := Lib.hid (by rw [e1]; exact ih (n / 10) (by omega) (by omega) w)
      have i2 : Hid (Calls Tryz.prog 38 #[.int .i64 ((n : Int) % 10)] w fun e w' => e = .returned (.string (decB (n % 10))) ∧ w = w') := Lib.hid (by rw [e2]; exact digits_one (n % 10) (by omega) w)
      have hnn : (10 : Int) ≤ n := by omega
      have hn' : (n : Int) ≤ 9223372036854775807 := by omega
      clear ih hn e1 e2
      go_enter Tryz.func38, Tryz.ntmps38
      go_wp2_with fail
      refine i1.out.mono ?_
      rintro e w1 ⟨rfl, rfl⟩
      go_wp2_with fail
      refine i2.out.mono ?_
      rintro e w1 ⟨rfl, rfl⟩
      go_wp2
      go_ret
      exact ⟨rfl, rfl⟩

/-! ### Signed -/
theorem itoaB_pos (n : Nat) : itoaB n = decB n := by
  unfold itoaB decB Lib.itoa
  rw [if_neg (by omega)]
  simp
theorem itoaB_one {n : Nat} (h1 : 0 < n) : itoaB (-(n : Int)) = (⟨#[45]⟩ : ByteArray) ++ decB n := by
  unfold itoaB decB Lib.itoa
  rw [if_pos (by omega)]
  rw [show (-(n : Int)).natAbs = n by omega, show (⟨#[45]⟩ : ByteArray) = ⟨[45].toArray⟩ from rfl, ba_app]
  rfl
theorem itoaB_more {n : Nat} (h : ¬ n < 10) : itoaB (-(n : Int)) = itoaB (-((n / 10 : Nat) : Int)) ++ decB (n % 10) := by
  rw [itoaB_one (by omega), itoaB_one (by omega), decB_more h, ByteArray.append_assoc]
theorem itoaB_size (n : Int) (h0 : -9223372036854775808 ≤ n) (h1 : n ≤ 9223372036854775807) : (itoaB n).size ≤ 30 := by
  rcases Int.lt_or_le n 0 with h | h
  · obtain ⟨m, rfl⟩ : ∃ m : Nat, n = -(m : Int) := ⟨n.natAbs, by omega⟩
    rw [itoaB_one (by omega), ByteArray.size_append]
    have := decB_size m 20 (Nat.lt_of_lt_of_le (show m < 100000000000000000000 by omega) (Nat.le_of_eq (by rfl)))
    show 1 + _ ≤ 30
    omega
  · obtain ⟨m, rfl⟩ := Int.eq_ofNat_of_zero_le h
    rw [itoaB_pos]
    have := decB_size m 20 (Nat.lt_of_lt_of_le (show m < 100000000000000000000 by omega) (Nat.le_of_eq (by rfl)))
    omega

set_option maxHeartbeats 2000000 in
theorem signed_neg : ∀ (n : Nat), 0 < n → n ≤ 9223372036854775808 → ∀ w : World, Calls Tryz.prog 18 #[.int .i64 (-(n : Int))] w fun e w' => e = .returned (.string (itoaB (-(n : Int)))) ∧ w = w' := by
  intro n
  induction n using Nat.strongRecOn with
  | _ n ih =>
    intro h0 hn w
    by_cases h : n < 10
    · have hc : ∀ W, (Op.stringOp .add ⟨#[45]⟩ (decB n)).run Tryz.prog W = .ok (.string (itoaB (-(n : Int)))) W := fun W => by
        rw [itoaB_one h0]
        have h2 := decB_size n 1 (Nat.lt_of_lt_of_le (show n < 10 by omega) (Nat.le_of_eq (by rfl)))
        exact run_string_add_sum W ⟨#[45]⟩ (decB n) (by have : (⟨#[45]⟩ : ByteArray).size = 1 := rfl; omega)
      have i1 := Lib.hid (digits_one n h w)
      have a1 : ¬ (0 : Int) ≤ -(n : Int) := by omega
      have a2 : (-10 : Int) < -(n : Int) := by omega
      clear ih hn
      go_enter Tryz.func18, Tryz.ntmps18
      go_wp2_with fail
      refine i1.out.mono ?_
      rintro e w1 ⟨rfl, rfl⟩
      go_wp2
      go_ret
      exact ⟨rfl, rfl⟩
    · have hc : ∀ W, (Op.stringOp .add (itoaB (-((n : Int) / 10))) (decB (n % 10))).run Tryz.prog W = .ok (.string (itoaB (-(n : Int)))) W := fun W => by
        rw [itoaB_more h, show (n : Int) / 10 = ((n / 10 : Nat) : Int) by omega]
        have h1 := itoaB_size (-((n / 10 : Nat) : Int)) (by omega) (by omega)
        have h2 := decB_size (n % 10) 1 (Nat.lt_of_lt_of_le (show n % 10 < 10 by omega) (Nat.le_of_eq (by rfl)))
        exact run_string_add_sum W (itoaB (-((n / 10 : Nat) : Int))) (decB (n % 10)) (by omega)
      have i1 := Lib.hid (ih (n / 10) (by omega) (by omega) (by omega) w)
      have i2 := Lib.hid (digits_one (n % 10) (by omega) w)
      have a1 : ¬ (0 : Int) ≤ -(n : Int) := by omega
      have a2 : ¬ (-10 : Int) < -(n : Int) := by omega
      have b1 : (0 : Int) ≤ (n : Int) / 10 := by omega
      have b2 : (n : Int) / 10 ≤ 922337203685477580 := by omega
      have b3 : (0 : Int) ≤ (n : Int) % 10 := by omega
      have b4 : (n : Int) % 10 ≤ 9 := by omega
      clear ih hn
      go_enter Tryz.func18, Tryz.ntmps18
      go_wp2_with fail
      refine i1.out.mono ?_
      rintro e w1 ⟨rfl, rfl⟩
      go_wp2_with fail
      refine i2.out.mono ?_
      rintro e w1 ⟨rfl, rfl⟩
      go_wp2
      go_ret
      exact ⟨rfl, rfl⟩
theorem signed_ok (n : Int) (h0 : -9223372036854775808 ≤ n) (h1 : n ≤ 9223372036854775807) (w : World) : Calls Tryz.prog 18 #[.int .i64 n] w fun e w' => e = .returned (.string (itoaB n)) ∧ w = w' := by
  rcases Int.lt_or_le n 0 with h | h
  · obtain ⟨m, rfl⟩ : ∃ m : Nat, n = -(m : Int) := ⟨n.natAbs, by omega⟩
    exact signed_neg m (by omega) (by omega) w
  · obtain ⟨m, rfl⟩ := Int.eq_ofNat_of_zero_le h
    rw [itoaB_pos]
    have i1 := Lib.hid (digits_ok m (by omega) w)
    clear h0 h1
    go_enter Tryz.func18, Tryz.ntmps18
    go_wp2_with fail
    refine i1.out.mono ?_
    rintro e w1 ⟨rfl, rfl⟩
    go_wp2
    go_ret
    exact ⟨rfl, rfl⟩
end Go.Proofs.YtdadfgaomighnaaGreatDoor
