/-
  HistoryFinds: who is committed; does an event count?
-/
import Derived.Test.YtddknmgajacofaaHistJ
import Derived.Deep.RegionHeld3
import Derived.StillTailTactics
namespace Go.Proofs.Ytddknmgajacofaa
open Go Go.RowKit

set_option maxHeartbeats 2000000 in
theorem committed_ok {w : World} {v : Value} {l : List EvD} (h : EvsE w v l) (hl : l.length ≤ 1000) : Calls Try.prog 11 #[v] w fun r w' => ∃ v', r = .returned v' ∧ OwnR 3 numC 1 w.heap.size w' v' (ordN l l.length) ∧ Upd Nowhere w w' := by
  obtain ⟨A, c, rfl, hc⟩ := h.val
  have H := Lib.hid h
  clear h
  go_enter Try.func11, Try.ntmps11
  go_wp2_with (go_at_call 27
               refine (commits_ok H.out hl).mono ?_
               rintro r w2 ⟨b, v2, rfl, _, _, ho, hu⟩
               have HO := Lib.hid ho
               have HU := Lib.hid hu
               clear ho hu)
  go_ret
  exact ⟨_, rfl, HO.out, HU.out⟩

/-- Is it ahead of its transaction's commit? -/
def cntB (l : List EvD) (a : Nat) (t : Int) : Bool := match atN l l.length t with
  | some j => decide (a < j)
  | none => false
theorem cnt_commit {l : List EvD} {a k : Nat} {t : Int} (hk : isAt l t 3 k = true) (h : ∀ j, j < k → isAt l t 3 j = false ∧ isAt l t 4 j = false) : cntB l a t = decide (a < k) := by
  have hlt : k < l.length := isAt_lt hk
  unfold cntB
  rw [(atN_iff l l.length t k).2 ⟨hlt, hk, fun j hj => (h j hj).1, fun j hj => (h j hj).2⟩]
theorem cnt_abort {l : List EvD} {a k : Nat} {t : Int} (hk : isAt l t 4 k = true) (h : ∀ j, j < k → isAt l t 3 j = false ∧ isAt l t 4 j = false) : cntB l a t = false := by
  unfold cntB
  cases hx : atN l l.length t with
  | none => rfl
  | some j =>
    obtain ⟨h1, h2, h3, h4⟩ := (atN_iff l l.length t j).1 hx
    rcases Nat.lt_trichotomy j k with h5 | h5 | h5
    · rw [(h j h5).1] at h2; cases h2
    · subst h5
      unfold isAt at h2 hk
      cases he : l[j]? with
      | none => rw [he] at h2; cases h2
      | some e =>
        rw [he] at h2 hk
        simp only [Bool.and_eq_true, decide_eq_true_eq] at h2 hk
        omega
    · rw [h4 k h5] at hk; cases hk
theorem cnt_end {l : List EvD} {a : Nat} {t : Int} (h : ∀ j, j < l.length → isAt l t 3 j = false ∧ isAt l t 4 j = false) : cntB l a t = false := by
  unfold cntB
  cases hx : atN l l.length t with
  | none => rfl
  | some j =>
    obtain ⟨h1, h2, _⟩ := (atN_iff l l.length t j).1 hx
    rw [(h j h1).1] at h2; cases h2

set_option maxHeartbeats 4000000 in
set_option maxRecDepth 100000 in
theorem counts_ok {w : World} {v : Value} {l : List EvD} (h : EvsE w v l) (hl : l.length ≤ 1000) {a : Nat} {e : EvD} (he : l[a]? = some e) : Calls Try.prog 19 #[v, .int .i64 a] w fun r w' => r = .returned (.bool (cntB l a e.tx)) ∧ ∃ m, w' = w.drewN m := by
  obtain ⟨kd', t, key', has', data'⟩ := e
  have ha := (List.getElem?_eq_some_iff.1 he).1
  obtain ⟨A, c, rfl, hc⟩ := h.val
  have H := Lib.hid h
  have HE := Lib.hid he
  clear h he
  show Calls _ _ _ _ fun r w' => r = .returned (.bool (cntB l a t)) ∧ ∃ m, w' = w.drewN m
  go_enter Try.func19, Try.ntmps19
  go_wp2_with fail
  go_loopw [5] (fun s wr => ∃ k : Nat, k ≤ l.length ∧ s = .int .i64 k ∧ (∀ j, j < k → isAt l t 3 j = false ∧ isAt l t 4 j = false) ∧ ∃ m, wr = w.drewN m) (fun s _ => l.length - (intOf s).toNat)
  case atStart => exact ⟨0, by omega, rfl, fun j hj => by omega, 0, rfl⟩
  case round =>
    obtain ⟨k, hk, rfl, hno, m, rfl⟩ := hrel
    have HN : Hid (∀ j, j < k → isAt l t 3 j = false ∧ isAt l t 4 j = false) := Lib.hid hno
    clear hno
    by_cases hlt : k < l.length
    · obtain ⟨⟨kd, tx, key, has, data⟩, hx⟩ : ∃ e, l[k]? = some e := ⟨_, List.getElem?_eq_getElem hlt⟩
      have hi : (k : Int) < (l.length : Nat) := by omega
      have hai : (a : Int) < (l.length : Nat) := by omega
      have HX := Lib.hid hx
      obtain ⟨b, off, c', hE, hb, q0, q1, _, _, _⟩ := event_at (h := (H.out : EvsE (w.drewN m) _ _)) hx
      cases hE
      obtain ⟨b9, off9, c9, hE9, _, p0, p1, _, _, _⟩ := event_at (h := (H.out : EvsE (w.drewN m) _ _)) HE.out
      cases hE9
      clear hx
      go_upto_region 4 with (fail)
      go_cut [30] (fun s wz => s = .bool (decide (tx = t) && decide (kd = 4)) ∧ ∃ m', wz = w.drewN m')
      case first =>
        by_cases htx : tx = t
        · subst htx
          go_quiet (fail)
          go_wp2_with fail
          go_meet
          exact ⟨by simp; rfl, _, rfl⟩
        · have hb : (tx == t) = false := by simp [htx]
          go_quiet (fail)
          go_wp2_with fail
          go_meet
          exact ⟨by simp [htx], _, rfl⟩
      case rest =>
        obtain ⟨rfl, m2, rfl⟩ := hcut
        by_cases h4 : tx = t ∧ kd = 4
        · obtain ⟨rfl, rfl⟩ := h4
          have HC : Hid (cntB l a tx = false) := Lib.hid (cnt_abort (k := k) (by simp [isAt_of HX.out]) HN.out)
          go_wp2_with fail
          go_ret
          exact ⟨by rw [HC.out]; rfl, _, rfl⟩
        · have hb4 : (decide (tx = t) && decide (kd = 4)) = false := by
            simp only [Bool.and_eq_false_iff, decide_eq_false_iff_not]
            by_cases h : tx = t
            · exact .inr fun h' => h4 ⟨h, h'⟩
            · exact .inl h
          rw [hb4]
          go_upto_region 6 with (fail)
          go_cut [49] (fun s wz => s = .bool (decide (tx = t) && decide (kd = 3)) ∧ ∃ m', wz = w.drewN m')
          case first =>
            by_cases htx : tx = t
            · subst htx
              go_quiet (fail)
              go_wp2_with fail
              go_meet
              exact ⟨by simp; rfl, _, rfl⟩
            · have hb : (tx == t) = false := by simp [htx]
              go_quiet (fail)
              go_wp2_with fail
              go_meet
              exact ⟨by simp [htx], _, rfl⟩
          case rest =>
            obtain ⟨rfl, m3, rfl⟩ := hcut
            by_cases h3 : tx = t ∧ kd = 3
            · obtain ⟨rfl, rfl⟩ := h3
              have HC : Hid (cntB l a tx = decide (a < k)) := Lib.hid (cnt_commit (k := k) (by simp [isAt_of HX.out]) HN.out)
              go_wp2_with fail
              go_ret
              exact ⟨by rw [HC.out]; simp, _, rfl⟩
            · have hb3 : (decide (tx = t) && decide (kd = 3)) = false := by
                simp only [Bool.and_eq_false_iff, decide_eq_false_iff_not]
                by_cases h : tx = t
                · exact .inr fun h' => h3 ⟨h, h'⟩
                · exact .inl h
              rw [hb3]
              have HR : Hid (∀ j, j < k + 1 → isAt l t 3 j = false ∧ isAt l t 4 j = false) := Lib.hid fun j hj => by
                rcases (by omega : j < k ∨ j = k) with h | h
                · exact HN.out j h
                · subst h
                  rw [isAt_of HX.out, isAt_of HX.out]
                  exact ⟨hb3, hb4⟩
              clear h3 hb3 h4 hb4
              go_wp2_with fail
              go_roundw
              case rel => exact ⟨k + 1, by omega, by go_num, HR.out, _, rfl⟩
              case measure => simp [intOf]; omega
    · obtain rfl : k = l.length := by omega
      have hi : ¬ (l.length : Int) < (l.length : Nat) := by omega
      have HC : Hid (cntB l a t = false) := Lib.hid (cnt_end HN.out)
      go_wp2_with fail
      go_ret
      exact ⟨by rw [HC.out]; rfl, _, rfl⟩
end Go.Proofs.Ytddknmgajacofaa
