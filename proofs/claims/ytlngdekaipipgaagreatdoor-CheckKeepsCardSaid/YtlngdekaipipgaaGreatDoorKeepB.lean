/-
  The reference's Keep.
-/
import Derived.Test.YtlngdekaipipgaaGreatDoorKeepA
import Derived.Test.YtlngdekaipipgaaGreatDoorProg
namespace Go.Proofs.YtlngdekaipipgaaGreatDoor
open Go Go.RowKit

def stepR (b : Int) (r : RowV) : Int := if 0 < r.first ∧ r.first < b then r.first else b
def stepD (b : Int) (d : Int × Int) : Int := if d.2 < b then d.2 else b
theorem least_ref (b : Int) (L : List RowV) (D : List (Int × Int)) : D.foldl stepD (L.foldl stepR b) = least b (firstsL L D) := by
  have h1 : ∀ (L : List RowV) (b : Int), L.foldl stepR b = least b (rowsL L) := by
    intro L
    induction L with
    | nil => intro b; rfl
    | cons r L ih =>
      intro b
      rw [List.foldl_cons, ih]
      unfold rowsL stepR
      by_cases hp : 0 < r.first
      · simp [hp, least]
      · simp [hp]
  have h2 : ∀ (D : List (Int × Int)) (b : Int), D.foldl stepD b = least b (D.map (·.2)) := by
    intro D
    induction D with
    | nil => intro b; rfl
    | cons r L ih =>
      intro b
      rw [List.foldl_cons, ih]
      simp [least, stepD]
  rw [h1, h2]
  unfold firstsL least
  rw [List.foldl_append]

set_option maxRecDepth 100000
set_option maxHeartbeats 2000000 in
theorem refKeep_ok (b : Int) (v1 v2 : Value) (L : List RowV) (D : List (Int × Int)) (w : World) (h1 : RowsE w v1 L) (h2 : DirtyE w v2 D) (hm1 : L.length ≤ 100) (hm2 : D.length ≤ 100) :
    Calls Tryz.prog 17 #[.int .i64 b, v1, v2] w fun e w' => e = .returned (.int .i64 (D.foldl stepD (L.foldl stepR b))) ∧ w = w' := by
  obtain ⟨A1, c1, rfl, hc1⟩ := h1.val
  obtain ⟨A2, c2, rfl, hc2⟩ := h2.val
  have H1 := Lib.hid h1
  have H2 := Lib.hid h2
  clear h1 h2
  go_enter Tryz.func17, Tryz.ntmps17
  go_wp2
  go_loop [7, 8] (fun t i => ∃ k : Nat, k ≤ L.length ∧ i = .int .i64 k ∧ t = .int .i64 ((L.take k).foldl stepR b)) (fun _ i => L.length - (intOf i).toNat)
  case atStart => exact ⟨0, Nat.zero_le _, rfl, rfl⟩
  case round =>
    obtain ⟨k, hk, rfl, rfl⟩ := hrel
    by_cases hlt : k < L.length
    · obtain ⟨r, hz⟩ : ∃ r, L[k]? = some r := ⟨_, List.getElem?_eq_getElem hlt⟩
      obtain ⟨bb, off, c, he, hb, _, _, g2, _⟩ := row_at H1.out hz
      injection he with he1 he2 he3
      subst he1 he3
      have HS : Hid ((L.take (k + 1)).foldl stepR b = stepR ((L.take k).foldl stepR b) r) := by
        show _ = _
        rw [List.take_add_one, hz, Option.toList_some, List.foldl_append]; rfl
      clear hz
      generalize (L.take k).foldl stepR b = t at HS ⊢
      by_cases hp : 0 < r.first
      · by_cases hq : r.first < t
        all_goals
          go_wp2
          go_round
          case rel => exact ⟨k + 1, by omega, by go_num, by rw [HS.out]; unfold stepR; split <;> first | rfl | (exfalso; omega)⟩
          case measure => simp [intOf]; omega
      · go_wp2
        go_round
        case rel => exact ⟨k + 1, by omega, by go_num, by rw [HS.out]; unfold stepR; rw [if_neg (by omega)]⟩
        case measure => simp [intOf]; omega
    · obtain rfl : k = L.length := by omega
      rw [List.take_length]
      generalize hT : L.foldl stepR b = t0
      have HT := Lib.hid hT
      clear hT
      go_wp2
      go_loop [7, 9] (fun t i => ∃ k : Nat, k ≤ D.length ∧ i = .int .i64 k ∧ t = .int .i64 ((D.take k).foldl stepD t0)) (fun _ i => D.length - (intOf i).toNat)
      case atStart => exact ⟨0, Nat.zero_le _, rfl, rfl⟩
      case round =>
        obtain ⟨k, hk, rfl, rfl⟩ := hrel
        by_cases hlt2 : k < D.length
        · obtain ⟨d, hz⟩ : ∃ r, D[k]? = some r := ⟨_, List.getElem?_eq_getElem hlt2⟩
          obtain ⟨bb, off, c, he, hb, _, g1⟩ := dirty_at H2.out hz
          injection he with he1 he2 he3
          subst he1 he3
          have HS : Hid ((D.take (k + 1)).foldl stepD t0 = stepD ((D.take k).foldl stepD t0) d) := by
            show _ = _
            rw [List.take_add_one, hz, Option.toList_some, List.foldl_append]; rfl
          clear hz
          generalize (D.take k).foldl stepD t0 = t at HS ⊢
          by_cases hq : d.2 < t
          all_goals
            go_wp2
            go_round
            case rel => exact ⟨k + 1, by omega, by go_num, by rw [HS.out]; unfold stepD; split <;> first | rfl | (exfalso; omega)⟩
            case measure => simp [intOf]; omega
        · obtain rfl : k = D.length := by omega
          rw [List.take_length]
          go_wp2
          go_ret
          exact ⟨by rw [HT.out]; rfl, rfl⟩
end Go.Proofs.YtlngdekaipipgaaGreatDoor
