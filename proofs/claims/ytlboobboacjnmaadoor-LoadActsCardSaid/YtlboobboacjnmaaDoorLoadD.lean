/-
  A transaction of a load.
-/
import Derived.Test.YtlboobboacjnmaaDoorLoadC
namespace Go.Proofs.YtlboobboacjnmaaDoor
open Go Go.RowKit

/-- The seed, and the acts, behind so many steps. -/
def stX (m : MixD) (x : Int) : Nat → Int
  | 0 => x
  | k + 1 => stepX m (stX m x k)
def stL (m : MixD) (tx x : Int) : Nat → List ActD
  | 0 => []
  | k + 1 => stL m tx x k ++ stepL m tx k (stX m x k)
def txEnd (m : MixD) (x : Int) : Int := if dr x 100 < m.quits then 16 else 15
def txX (m : MixD) (x : Int) : Int := nx (nx (stX m (nx x) m.steps.toNat))
def txL (m : MixD) (i x : Int) : List ActD :=
  { kind := 12, n := dr x m.nodes } :: (stL m (-1 - i) (nx x) m.steps.toNat ++ [{ kind := txEnd m (stX m (nx x) m.steps.toNat), tx := -1 - i }, { kind := 18, n := 1 + dr (nx (stX m (nx x) m.steps.toNat)) 3 }])
theorem stepL_length (m : MixD) (tx : Int) (k : Nat) (x : Int) : (stepL m tx k x).length ≤ 4 := by
  unfold stepL stepDrop stepFall
  split <;> split <;> simp
theorem stL_length (m : MixD) (tx x : Int) (k : Nat) : (stL m tx x k).length ≤ 4 * k := by
  induction k with
  | zero => simp [stL]
  | succ k ih =>
    have := stepL_length m tx k (stX m x k)
    simp only [stL, List.length_append]
    omega
theorem txL_length (m : MixD) (i x : Int) (hs : m.steps ≤ 20) : (txL m i x).length ≤ 83 := by
  have := stL_length m (-1 - i) (nx x) m.steps.toNat
  simp only [txL, List.length_append, List.length_cons, List.length_nil]
  omega

set_option maxHeartbeats 4000000 in
set_option maxRecDepth 100000 in
theorem tx_ok (bx bs : Nat) (m : MixD) (x : Int) (v : Value) (L : List ActD) (i : Nat) (w : World) (h : MkP w bx bs m x v L) (hk0 : 0 < m.keys) (hk1 : m.keys ≤ 100) (hn0 : 0 < m.nodes) (hs0 : 0 ≤ m.steps) (hs1 : m.steps ≤ 20) (hi : i < 100) (hlen : L.length ≤ 40000) :
    Calls Tryd.prog 11 #[.pointer (some ⟨bx, 0, none⟩), .int .i64 i] w fun e w' => e = .returned (.tuple #[]) ∧ Goes w bx bs m v (txX m x) (L ++ txL m i x) w' := by
  have cb := h.blk.cell
  have H := Lib.hid h
  have ei : IntKind.i64.wrap (-1 - (i : Int)) = -1 - (i : Int) := IntWalk.i64_in _ (by omega)
  clear h
  go_enter Tryd.func11, Tryd.ntmps11
  go_upto_region 1 with (fail)
  go_cut [] (fun wz => Goes w bx bs m v (nx x) (L ++ [⟨12, dr x m.nodes, 0, ⟨#[]⟩, false, ⟨#[]⟩⟩]) wz)
  case first =>
    go_region_with (first
      | (go_at_call 10
         refine (oneOf_ok bs _ m.nodes _ (H.out.upd (Upd.refl Nowhere w).drew fun _ _ => id).seed hn0).mono ?_
         rintro e w1 ⟨rfl, hs1', hu1⟩
         have HM1 := Lib.hid ((H.out.upd (Upd.refl Nowhere w).drew fun _ _ => id).draw hs1' hu1)
         have HG1 := Lib.hid ((((Going.refl w bx bs v)).beside (Upd.refl Nowhere w).drew fun _ _ => id).draw hu1)
         clear hs1' hu1 cb)
      | (go_at_call 16
         refine (puts_one bx bs m _ v L ⟨12, dr x m.nodes, 0, ⟨#[]⟩, false, ⟨#[]⟩⟩ w1 HM1.out (by omega)).mono ?_
         rintro e w2 ⟨rfl, hg2⟩
         have HG2 := Lib.hid (HG1.out.goes hg2)
         clear hg2 HM1 HG1))
    all_goals
      go_wp2_with fail
      go_meet
      exact HG2.out
  case rest =>
  have hg := hcut
  clear hcut
  have HG2 := Lib.hid hg
  obtain ⟨v2, hM2, hgo2⟩ := hg.open_
  have cb2 := hM2.blk.cell
  clear hg hM2 hgo2
  go_wp2_with fail
  clear cb2
  go_loopw [28] (fun t wr => ∃ k : Nat, (k : Int) ≤ m.steps ∧ t = .int .i64 k ∧ Goes w bx bs m v (stX m (nx x) k) (L ++ [⟨12, dr x m.nodes, 0, ⟨#[]⟩, false, ⟨#[]⟩⟩] ++ stL m (-1 - i) (nx x) k) wr) (fun t _ => m.steps.toNat - (intOf t).toNat)
  case atStart => exact ⟨0, by omega, rfl, by simpa [stL, stX] using HG2.out⟩
  case round =>
    obtain ⟨k, hk, rfl, hG⟩ := hrel
    obtain ⟨v3, hM3, hgo3⟩ := hG.open_
    have hl3 := stL_length m (-1 - i) (nx x) k
    by_cases hlt : (k : Int) < m.steps
    · have HM3 := Lib.hid hM3
      have HG3 := Lib.hid hgo3
      clear hG hM3 hgo3
      go_wp2_with fail
      refine (step_ok bx bs m _ v3 _ (-1 - i) k wr HM3.out hk0 hk1 hn0 (by omega) (by simp only [List.length_append, List.length_cons, List.length_nil]; omega)).mono ?_
      rintro e w4 ⟨rfl, hg4⟩
      have HG4 := Lib.hid (HG3.out.goes hg4)
      clear hg4 HM3 HG3
      go_wp2_with fail
      go_roundw
      case rel => exact ⟨k + 1, by omega, by go_num, by simpa [stL, stX] using HG4.out⟩
      case measure => simp [intOf]; omega
    · have e : ¬ (k : Int) < m.steps := by omega
      obtain rfl : k = m.steps.toNat := by omega
      have HLEN := Lib.hid hl3
      have HM3 := Lib.hid hM3
      have HG3 := Lib.hid hgo3
      have cb3 := hM3.blk.cell
      clear hG hM3 hgo3 HG2
      go_wp2_with fail
      refine (often_ok bx bs m _ _ _ m.quits _ HM3.out).mono ?_
      rintro e' w4 ⟨rfl, hM4, hu4⟩
      have HM4 := Lib.hid hM4
      have HG4 := Lib.hid (HG3.out.draw hu4)
      have cb4 := hM4.blk.cell
      clear hM4 hu4 HM3 HG3 cb3
      by_cases hq : dr (stX m (nx x) m.steps.toNat) 100 < m.quits
      · have dq : decide (dr (stX m (nx x) m.steps.toNat) 100 < m.quits) = true := by simpa using hq
        rw [dq]
        go_wp2_with fail
        refine (oneOf_ok bs _ 3 _ HM4.out.seed (by decide)).mono ?_
        rintro e w5 ⟨rfl, hs5, hu5⟩
        have HM5 := Lib.hid (HM4.out.draw hs5 hu5)
        have HG5 := Lib.hid (HG4.out.draw hu5)
        have ec : IntKind.i64.wrap (1 + dr (nx (stX m (nx x) m.steps.toNat)) 3) = 1 + dr (nx (stX m (nx x) m.steps.toNat)) 3 := by
          have h0 := dr_nonneg (nx (stX m (nx x) m.steps.toNat)) 3
          have h1 := dr_lt (nx (stX m (nx x) m.steps.toNat)) (n := 3) (by decide)
          exact IntWalk.i64_in _ (by omega)
        clear hs5 hu5 HM4 HG4 cb4
        go_wp2_with fail
        refine (puts_two bx bs m _ _ _ ⟨16, 0, -1 - i, ⟨#[]⟩, false, ⟨#[]⟩⟩ ⟨18, 1 + dr (nx (stX m (nx x) m.steps.toNat)) 3, 0, ⟨#[]⟩, false, ⟨#[]⟩⟩ w5 HM5.out (by simp only [List.length_append, List.length_cons, List.length_nil]; have := HLEN.out; omega)).mono ?_
        rintro e w6 ⟨rfl, hg6⟩
        have HE := Lib.hid (HG5.out.goes hg6)
        clear hg6 HM5 HG5
        go_wp2_with fail
        go_end0
        refine ⟨rfl, ?_⟩
        have := HE.out
        simp only [txX, txL, txEnd, if_pos (id hq)]
        simpa using this
      · have dq : decide (dr (stX m (nx x) m.steps.toNat) 100 < m.quits) = false := by simpa using hq
        rw [dq]
        go_wp2_with fail
        refine (oneOf_ok bs _ 3 _ HM4.out.seed (by decide)).mono ?_
        rintro e w5 ⟨rfl, hs5, hu5⟩
        have HM5 := Lib.hid (HM4.out.draw hs5 hu5)
        have HG5 := Lib.hid (HG4.out.draw hu5)
        have ec : IntKind.i64.wrap (1 + dr (nx (stX m (nx x) m.steps.toNat)) 3) = 1 + dr (nx (stX m (nx x) m.steps.toNat)) 3 := by
          have h0 := dr_nonneg (nx (stX m (nx x) m.steps.toNat)) 3
          have h1 := dr_lt (nx (stX m (nx x) m.steps.toNat)) (n := 3) (by decide)
          exact IntWalk.i64_in _ (by omega)
        clear hs5 hu5 HM4 HG4 cb4
        go_wp2_with fail
        refine (puts_two bx bs m _ _ _ ⟨15, 0, -1 - i, ⟨#[]⟩, false, ⟨#[]⟩⟩ ⟨18, 1 + dr (nx (stX m (nx x) m.steps.toNat)) 3, 0, ⟨#[]⟩, false, ⟨#[]⟩⟩ w5 HM5.out (by simp only [List.length_append, List.length_cons, List.length_nil]; have := HLEN.out; omega)).mono ?_
        rintro e w6 ⟨rfl, hg6⟩
        have HE := Lib.hid (HG5.out.goes hg6)
        clear hg6 HM5 HG5
        go_wp2_with fail
        go_end0
        refine ⟨rfl, ?_⟩
        have := HE.out
        simp only [txX, txL, txEnd, if_neg (Int.not_lt.2 hq)]
        simpa using this
end Go.Proofs.YtlboobboacjnmaaDoor
