/-
  The document's Committed and Ahead.
-/
import Derived.Test.YtddknmgajacofaaTeE
namespace Go.Proofs.Ytddknmgajacofaa
open Go Go.RowKit

theorem ordN_iff (l : List EvD) (t : Int) : ∀ n, t ∈ ordN l n ↔ atN l n t ≠ none := by
  intro n
  induction n with
  | zero => simp [ordN, atN]
  | succ n ih =>
    cases he : l[n]? with
    | none =>
      have : isAt l t 3 n = false := by simp [isAt, he]
      simp only [ordN, he, atN, this, Bool.false_and, Bool.false_eq_true, if_false]
      exact ih
    | some e =>
      by_cases hc : e.kind = 3 ∧ atN l n e.tx = none ∧ abN l n e.tx = false
      · simp only [ordN, he]
        rw [if_pos hc, List.mem_append, List.mem_singleton, ih]
        by_cases ht : t = e.tx
        · subst ht
          have : atN l (n + 1) e.tx = some n := by simp [atN, isAt_of he, hc.1, hc.2.1, hc.2.2]
          simp [this]
        · have h0 : ¬ e.tx = t := fun h => ht h.symm
          have h1 : isAt l t 3 n = false := by rw [isAt_of he]; simp [h0]
          simp [atN, h1, ht]
      · simp only [ordN, he]
        rw [if_neg hc, ih]
        by_cases ht : isAt l t 3 n = true
        · have hx := ht
          rw [isAt_of he] at hx
          simp only [Bool.and_eq_true, decide_eq_true_eq] at hx
          obtain ⟨rfl, hk⟩ := hx
          have : ¬ ((isAt l e.tx 3 n && (atN l n e.tx).isNone && !abN l n e.tx) = true) := by
            simp only [Bool.and_eq_true, Bool.not_eq_true', Option.isNone_iff_eq_none]
            exact fun h => hc ⟨hk, h.1.2, h.2⟩
          simp only [atN, if_neg this]
        · simp [atN, ht]
theorem ordN_nodup (l : List EvD) : ∀ n, (ordN l n).Nodup := by
  intro n
  induction n with
  | zero => exact List.nodup_nil
  | succ n ih =>
    simp only [ordN]
    split
    · rename_i e he
      split
      · rename_i hc
        rw [List.nodup_append]
        exact ⟨ih, by simp, fun a ha b hb e' => by
          rw [List.mem_singleton] at hb
          subst hb
          subst e'
          exact (ordN_iff l _ n).1 ha hc.2.1⟩
      · exact ih
    · exact ih
theorem com_step {l : List EvD} {n : Nat} {e : EvD} (he : l[n]? = some e) (hk : e.kind = 3) : (firstE l e.tx 3 < firstE l e.tx 4 ∧ e.tx ∉ ordN l n) ↔ (atN l n e.tx = none ∧ abN l n e.tx = false) := by
  have hat : isAt l e.tx 3 n = true := by rw [isAt_of he]; simp [hk]
  have hn : n < l.length := (List.getElem?_eq_some_iff.1 he).1
  rw [ordN_iff, Classical.not_not]
  have hf := atN_first l e.tx
  constructor
  · rintro ⟨h1, h2⟩
    refine ⟨h2, ?_⟩
    rw [if_pos h1] at hf
    obtain ⟨_, h3, h4, h5⟩ := (atN_iff l _ _ _).1 hf
    generalize firstE l e.tx 3 = p at *
    have hp : p = n := by
      rcases Nat.lt_trichotomy p n with h | h | h
      · rw [(atN_iff l n e.tx p).2 ⟨h, h3, h4, h5⟩] at h2; cases h2
      · exact h
      · rw [h4 n h] at hat; cases hat
    subst hp
    cases hb : abN l p e.tx with
    | false => rfl
    | true =>
      obtain ⟨j, hj, h6⟩ := (abN_iff l p e.tx).1 hb
      rw [h5 j hj] at h6; cases h6
  · rintro ⟨h1, h2⟩
    refine ⟨?_, h1⟩
    have h3 : atN l (n + 1) e.tx = some n := by simp [atN, hat, h1, h2]
    obtain ⟨_, h4, h5, h6⟩ := (atN_iff l _ _ _).1 h3
    have h7 := (atN_iff l l.length e.tx n).2 ⟨hn, h4, h5, h6⟩
    rw [h7] at hf
    by_cases h : firstE l e.tx 3 < firstE l e.tx 4
    · exact h
    · rw [if_neg h] at hf; cases hf

set_option maxHeartbeats 4000000 in
set_option maxRecDepth 100000 in
theorem rcommitted_ok {w : World} {v : Value} {l : List EvD} (h : EvsE w v l) (hl : l.length ≤ 60) : Calls Try.prog 12 #[v] w fun r w' => ∃ v', r = .returned v' ∧ OwnI w.heap.size w' v' (ordN l l.length) ∧ Upd Nowhere w w' := by
  obtain ⟨A, c, rfl, hc⟩ := h.val
  have H := Lib.hid h
  clear h
  go_enter Try.func12, Try.ntmps12
  go_wp2_with fail
  go_loopw [3, 4] (fun u s wr => ∃ k : Nat, k ≤ l.length ∧ s = .int .i64 k ∧ OwnI w.heap.size wr u (ordN l k) ∧ Upd Nowhere w wr) (fun _ s _ => l.length - (intOf s).toNat)
  case atStart => exact ⟨0, by omega, rfl, OwnR.nil _ _ _ _ _, Upd.refl _ _⟩
  case round =>
    obtain ⟨k, hk, rfl, ho, hu⟩ := hrel
    have HO := Lib.hid ho
    have HU := Lib.hid hu
    have HLN := Lib.hid (ordN_len l k)
    clear ho hu
    by_cases hlt : k < l.length
    · obtain ⟨⟨kd, tx, key, has, data⟩, he⟩ : ∃ e, l[k]? = some e := ⟨_, List.getElem?_eq_getElem hlt⟩
      obtain ⟨b, off, c', hE, hb, q0, q1, q2, q3, q4⟩ := event_at (H.out.upd HU.out fun _ _ => id) he
      cases hE
      have hi : (k : Int) < (l.length : Nat) := by omega
      have HE := Lib.hid he
      have HW : Hid (EvsE wr (.slice (some ⟨b, off, none⟩) l.length c) l) := Lib.hid (H.out.upd HU.out fun _ _ => id)
      by_cases h3 : kd = 3
      · subst h3
        have hcs := com_step he rfl
        clear he
        cases d1 : decide (firstE l tx 3 < firstE l tx 4) with
        | false =>
          have HS : Hid (ordN l (k + 1) = ordN l k) := Lib.hid (by
            simp only [ordN, HE.out]
            rw [if_neg fun h => ?_]
            have := (hcs.2 ⟨h.2.1, h.2.2⟩).1
            rw [decide_eq_true this] at d1; cases d1)
          clear hcs
          go_wp2_with (go_at_call 28; refine (his_ok HW.out (by omega) tx).mono ?_; rintro e w9 ⟨rfl, hw9⟩; obtain rfl : wr = w9 := hw9.symm; rw [d1])
          go_roundw
          case rel => exact ⟨k + 1, by omega, by go_num, by rw [HS.out]; exact HO.out, HU.out⟩
          case measure => simp [intOf]; omega
        | true =>
          cases d2 : decide (tx ∈ ordN l k) with
          | true =>
            have HS : Hid (ordN l (k + 1) = ordN l k) := Lib.hid (by
              simp only [ordN, HE.out]
              rw [if_neg fun h => ?_]
              exact (hcs.2 ⟨h.2.1, h.2.2⟩).2 (of_decide_eq_true d2))
            clear hcs
            go_wp2_with (first | (go_at_call 28; refine (his_ok HW.out (by omega) tx).mono ?_; rintro e w9 ⟨rfl, hw9⟩; obtain rfl : wr = w9 := hw9.symm; rw [d1]) | (go_at_call 26; refine (hin_ok HO.out.els (Nat.le_trans HLN.out (by omega)) tx).mono ?_; rintro e w9 ⟨rfl, hw9⟩; obtain rfl : wr = w9 := hw9.symm; rw [d2]))
            go_roundw
            case rel => exact ⟨k + 1, by omega, by go_num, by rw [HS.out]; exact HO.out, HU.out⟩
            case measure => simp [intOf]; omega
          | false =>
            have HS : Hid (ordN l (k + 1) = ordN l k ++ [tx]) := Lib.hid (by
              simp only [ordN, HE.out]
              rw [if_pos ⟨trivial, hcs.1 ⟨of_decide_eq_true d1, of_decide_eq_false d2⟩⟩])
            clear hcs
            obtain ⟨v3, w3, hr3, ho3, hg3, hb3⟩ := rkI.app1 HO.out HU.out.size 25 tx #[.int .i64 tx] rfl (by have := HLN.out; omega)
            have HR3 := Lib.hid hr3
            have HO3 := Lib.hid ho3
            have HG3 := Lib.hid hg3
            clear hr3 ho3 hg3 hb3
            go_wp2_with (first | (go_at_call 28; refine (his_ok HW.out (by omega) tx).mono ?_; rintro e w9 ⟨rfl, hw9⟩; obtain rfl : wr = w9 := hw9.symm; rw [d1]) | (go_at_call 26; refine (hin_ok HO.out.els (Nat.le_trans HLN.out (by omega)) tx).mono ?_; rintro e w9 ⟨rfl, hw9⟩; obtain rfl : wr = w9 := hw9.symm; rw [d2]) | (at_builtin; refine wpList_append_run rfl _ _ _ rfl rfl rfl HR3.out ?_))
            go_roundw
            case rel => exact ⟨k + 1, by omega, by go_num, by rw [HS.out]; exact HO3.out, HU.out.grown HG3.out fun k hk h => by have := HO.out.new k hk; omega⟩
            case measure => simp [intOf]; omega
      · have HS : Hid (ordN l (k + 1) = ordN l k) := Lib.hid (by
          simp only [ordN, HE.out]
          rw [if_neg fun h => h3 h.1])
        clear he
        go_wp2_with fail
        go_roundw
        case rel => exact ⟨k + 1, by omega, by go_num, by rw [HS.out]; exact HO.out, HU.out⟩
        case measure => simp [intOf]; omega
    · have hi : ¬ (k : Int) < (l.length : Nat) := by omega
      obtain rfl : k = l.length := by omega
      go_wp2_with fail
      go_ret
      exact ⟨_, rfl, HO.out, HU.out⟩
end Go.Proofs.Ytddknmgajacofaa
