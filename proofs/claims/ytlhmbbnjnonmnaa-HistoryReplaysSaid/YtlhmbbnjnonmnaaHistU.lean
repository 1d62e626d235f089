/-
  HistoryReplays returns true, for all events and orders.
-/
import Derived.Test.YtlhmbbnjnonmnaaHistO
import Derived.Test.YtlhmbbnjnonmnaaHistF
import Derived.Test.YtlhmbbnjnonmnaaHistT
namespace Go.Proofs.Ytlhmbbnjnonmnaa
open Go Go.RowKit

theorem Made.els {w0 w w' : World} {v : Value} {L : List (Ky × Vl)} (h : Made w0 w v L) (hu : Upd Nowhere w w') : CellsE w' v L := Els.upd (Reads.of_own h.row) hu fun _ _ => id
theorem nil_els {w : World} : CellsE w (.slice none 0 0) [] := Reads.of_own (World.ownsRow_nil w 0 54 3)
theorem stN_small {l : List EvD} {o : List Int} {vals : List (Ky × Vl)} (hl : l.length ≤ 60) (ho : o.length ≤ 60) (h : stN l o o.length = some vals) : vals.length ≤ 5000 := by
  have h1 := stN_len h
  have h2 : o.length * l.length ≤ 60 * 60 := Nat.mul_le_mul ho hl
  omega
theorem great_not {l : List EvD} (h : greatB l = false) : l.length ≤ 60 ∧ ∀ e ∈ l, e.ky.length ≤ maxLen := by
  simp only [greatB, Bool.or_eq_false_iff, decide_eq_false_iff_not, List.any_eq_false] at h
  refine ⟨by omega, fun e he => ?_⟩
  have := h.2 e he
  simp only [bigE, Bool.or_eq_true, decide_eq_true_eq, not_or] at this
  have h1 : e.ky.length = e.key.size := Array.length_toList
  rw [h1]
  have : e.key.size ≤ 100 := by omega
  exact Nat.le_trans this (by decide)

set_option maxHeartbeats 4000000 in
set_option maxRecDepth 100000 in
theorem historyReplays_walk {w : World} {v u : Value} {l : List EvD} {o : List Int} (h : EvsE w v l) (ho : NumsE w u o) : Calls Try.prog 3 #[v, u] w fun e w' => e = .returned (.bool true) ∧ Upd Nowhere w w' := by
  obtain ⟨A, c, rfl, hc⟩ := h.val
  obtain ⟨B, d, rfl, hd⟩ := ho.val
  have H := Lib.hid h
  have HO := Lib.hid ho
  clear h ho
  go_enter Try.func3, Try.ntmps3
  cases hg : greatB l with
  | true =>
    go_wp2_with (first
      | (go_at_call 4; refine (great_ok H.out).mono ?_; rintro e w2 ⟨rfl, rfl⟩; rw [hg])
      | (go_at_call 5; refine (awake_ok _).mono ?_; rintro e w2 ⟨rfl, hu⟩; have HU := Lib.hid hu; clear hu))
    go_ret
    exact ⟨rfl, HU.out⟩
  | false =>
    by_cases hol : 60 < o.length
    · have hb : (60 : Int) < (o.length : Nat) := by omega
      go_wp2_with (first
        | (go_at_call 4; refine (great_ok H.out).mono ?_; rintro e w2 ⟨rfl, rfl⟩; rw [hg])
        | (go_at_call 5; refine (awake_ok _).mono ?_; rintro e w2 ⟨rfl, hu⟩; have HU := Lib.hid hu; clear hu))
      go_ret
      exact ⟨rfl, HU.out⟩
    · have hb : ¬ (60 : Int) < (o.length : Nat) := by omega
      have HL := Lib.hid (great_not hg)
      have hol' : o.length ≤ 60 := by omega
      go_wp2_with (go_at_call 4; refine (great_ok H.out).mono ?_; rintro e w2 ⟨rfl, rfl⟩; rw [hg])
      refine (own_ok H.out (Nat.le_trans HL.out.1 (by omega))).mono ?_
      rintro r w3 ⟨v3, rfl, hov, hu⟩
      obtain ⟨v4, w4, hr4, ho4, hu4⟩ := rkI.copy (Try.sizeOf3) (HO.out.upd hu fun _ _ => id) (by omega) 23
      have HR4 := Lib.hid hr4
      have H4 := Lib.hid ho4
      have H3 := Lib.hid (hov.upd hu4 fun _ _ => id)
      have HU4 := Lib.hid (hu.trans (F := Nowhere) hu4 fun _ _ => id)
      clear hov hu hr4 ho4 hu4
      cases hst : stN l o o.length with
      | none =>
        go_wp2_with (first
          | (at_builtin; refine wpList_append_run rfl _ _ _ rfl rfl rfl HR4.out ?_)
          | (go_at_call 6
             refine (replay_ok H3.out.els HL.out.1 H4.out.els hol' HL.out.2).mono ?_
             rintro r w5 hr
             rw [hst] at hr
             obtain ⟨rfl, hu5⟩ := hr
             have HW5 := Lib.hid (show EvsE w5 (.slice A l.length c) l ∧ NumsE w5 (.slice B o.length d) o from ⟨H.out.upd (HU4.out.trans (F := Nowhere) hu5 fun _ _ => id) fun _ _ => id, HO.out.upd (HU4.out.trans (F := Nowhere) hu5 fun _ _ => id) fun _ _ => id⟩)
             have HU5 := Lib.hid (HU4.out.trans (F := Nowhere) hu5 fun _ _ => id))
          | (go_at_call 8
             refine (hreplay_ok HW5.out.1 HL.out.1 HW5.out.2 hol').mono ?_
             rintro r w6 hr
             rw [hst] at hr
             obtain ⟨rfl, hu6⟩ := hr
             have HU6 := Lib.hid (HU5.out.trans (F := Nowhere) hu6 fun _ _ => id))
          | (go_at_call 9
             refine (hsame_ok (L := []) nil_els nil_els (by decide)).mono ?_
             rintro r w7 ⟨rfl, hu7⟩
             have HU7 := Lib.hid (HU6.out.trans (F := Nowhere) hu7 fun _ _ => id))
          | (go_at_call 5
             refine (awake_ok _).mono ?_
             rintro r w8 ⟨rfl, hu8⟩
             have HU8 := Lib.hid (HU7.out.trans (F := Nowhere) hu8 fun _ _ => id)))
        go_ret
        exact ⟨rfl, HU8.out⟩
      | some vals =>
        have HVL := Lib.hid (stN_small HL.out.1 hol' hst)
        go_wp2_with (first
          | (at_builtin; refine wpList_append_run rfl _ _ _ rfl rfl rfl HR4.out ?_)
          | (go_at_call 6
             refine (replay_ok H3.out.els HL.out.1 H4.out.els hol' HL.out.2).mono ?_
             rintro r w5 hr
             rw [hst] at hr
             obtain ⟨v5, rfl, hm5⟩ := hr
             have HW5 := Lib.hid (show EvsE w5 (.slice A l.length c) l ∧ NumsE w5 (.slice B o.length d) o from ⟨H.out.upd (HU4.out.trans (F := Nowhere) hm5.upd fun _ _ => id) fun _ _ => id, HO.out.upd (HU4.out.trans (F := Nowhere) hm5.upd fun _ _ => id) fun _ _ => id⟩)
             have HU5 := Lib.hid (HU4.out.trans (F := Nowhere) hm5.upd fun _ _ => id))
          | (go_at_call 8
             refine (hreplay_ok HW5.out.1 HL.out.1 HW5.out.2 hol').mono ?_
             rintro r w6 hr
             rw [hst] at hr
             obtain ⟨v6, rfl, hm6⟩ := hr
             have HU6 := Lib.hid (HU5.out.trans (F := Nowhere) hm6.upd fun _ _ => id))
          | (go_at_call 9
             refine (hsame_ok (hm5.els hm6.upd) (hm6.els (Upd.refl _ _)) HVL.out).mono ?_
             rintro r w7 ⟨rfl, hu7⟩
             have HU7 := Lib.hid (HU6.out.trans (F := Nowhere) hu7 fun _ _ => id))
          | (go_at_call 5
             refine (awake_ok _).mono ?_
             rintro r w8 ⟨rfl, hu8⟩
             have HU8 := Lib.hid (HU7.out.trans (F := Nowhere) hu8 fun _ _ => id)))
        go_ret
        exact ⟨rfl, HU8.out⟩
end Go.Proofs.Ytlhmbbnjnonmnaa
