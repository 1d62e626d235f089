/-
  Strict: by the document, and by who has written last; the document's Strict.
-/
import Derived.Test.YtddknmgajacofaaHistJ
namespace Go.Proofs.Ytddknmgajacofaa
open Go Go.RowKit

/-- Does a transaction end behind event i, ahead of event j? -/
def endB (l : List EvD) (t : Int) (i : Nat) : Nat → Bool
  | 0 => false
  | j + 1 => endB l t i j || (decide (i < j) && (isAt l t 3 j || isAt l t 4 j))
theorem endB_first (l : List EvD) (t : Int) (i : Nat) : ∀ j, j ≤ i + 1 → endB l t i j = false := by
  intro j
  induction j with
  | zero => intro _; rfl
  | succ j ih =>
    intro h
    have : ¬ i < j := by omega
    simp [endB, ih (by omega), this]
theorem endB_iff (l : List EvD) (t : Int) (i : Nat) : ∀ j, endB l t i j = true ↔ ∃ m, i < m ∧ m < j ∧ (isAt l t 3 m = true ∨ isAt l t 4 m = true) := by
  intro j
  induction j with
  | zero => simp [endB]
  | succ j ih =>
    simp only [endB, Bool.or_eq_true, Bool.and_eq_true, decide_eq_true_eq, ih]
    constructor
    · rintro (⟨m, h1, h2, h3⟩ | ⟨h1, h2⟩)
      · exact ⟨m, h1, by omega, h3⟩
      · exact ⟨j, h1, by omega, h2⟩
    · rintro ⟨m, h1, h2, h3⟩
      rcases (by omega : m < j ∨ m = j) with h | rfl
      · exact .inl ⟨m, h1, h, h3⟩
      · exact .inr ⟨h1, h3⟩
/-- Events i and k: is i a write of an open transaction that k touches? -/
def TouchAt (l : List EvD) (i k : Nat) : Prop := ∃ a b, l[i]? = some a ∧ l[k]? = some b ∧ (b.kind = 1 ∨ b.kind = 2) ∧ a.kind = 2 ∧ a.key = b.key ∧ a.tx ≠ b.tx ∧ endB l a.tx i k = false
def StrictP (l : List EvD) : Prop := ∀ i k, i < k → ¬ TouchAt l i k
/-- Who has written a key, and has not ended, behind n events. -/
def ownK (l : List EvD) : Nat → ByteArray → Option Int
  | 0, _ => none
  | n + 1, K => match l[n]? with
    | some e => if e.kind = 2 ∧ e.key = K then some e.tx else if (e.kind = 3 ∨ e.kind = 4) ∧ ownK l n K = some e.tx then none else ownK l n K
    | none => ownK l n K
def PassK (l : List EvD) (n : Nat) : Prop := ∀ e, l[n]? = some e → e.kind = 1 ∨ e.kind = 2 → ownK l n e.key = none ∨ ownK l n e.key = some e.tx
theorem ownK_wrote {l : List EvD} {K : ByteArray} {t : Int} : ∀ {n : Nat}, ownK l n K = some t → ∃ i a, i < n ∧ l[i]? = some a ∧ a.kind = 2 ∧ a.key = K ∧ a.tx = t ∧ endB l t i n = false := by
  intro n
  induction n with
  | zero => intro h; cases h
  | succ n ih =>
    intro h
    simp only [ownK] at h
    cases he : l[n]? with
    | none =>
      rw [he] at h
      obtain ⟨i, a, h1, h2, h3, h4, h5, h6⟩ := ih h
      refine ⟨i, a, by omega, h2, h3, h4, h5, ?_⟩
      simp [endB, h6, isAt, he]
    | some e =>
      rw [he] at h
      dsimp only at h
      by_cases c1 : e.kind = 2 ∧ e.key = K
      · rw [if_pos c1] at h
        cases h
        refine ⟨n, e, by omega, he, c1.1, c1.2, rfl, ?_⟩
        cases hb : endB l e.tx n (n + 1) with
        | false => rfl
        | true =>
          obtain ⟨m, h1, h2, _⟩ := (endB_iff _ _ _ _).1 hb
          omega
      · rw [if_neg c1] at h
        by_cases c2 : (e.kind = 3 ∨ e.kind = 4) ∧ ownK l n K = some e.tx
        · rw [if_pos c2] at h; cases h
        · rw [if_neg c2] at h
          obtain ⟨i, a, h1, h2, h3, h4, h5, h6⟩ := ih h
          refine ⟨i, a, by omega, h2, h3, h4, h5, ?_⟩
          have : isAt l t 3 n = false ∧ isAt l t 4 n = false := by
            rw [isAt_of he, isAt_of he]
            by_cases ht : e.tx = t
            · subst ht
              have : ¬ (e.kind = 3 ∨ e.kind = 4) := fun hk => c2 ⟨hk, h⟩
              simp only [not_or] at this
              simp [this.1, this.2]
            · simp [ht]
          simp [endB, h6, this.1, this.2]
theorem strict_iff (l : List EvD) : StrictP l ↔ ∀ n, PassK l n := by
  constructor
  · intro hS n e he hk
    cases ho : ownK l n e.key with
    | none => exact .inl rfl
    | some t =>
      by_cases ht : t = e.tx
      · subst ht; exact .inr rfl
      · obtain ⟨i, a, h1, h2, h3, h4, rfl, h6⟩ := ownK_wrote ho
        exact absurd ⟨a, e, h2, he, hk, h3, h4, ht, h6⟩ (hS i n h1)
  · rintro hP i k hik ⟨a, b, ha, hb, hk, h2, hkey, hne, hend⟩
    have hno : ∀ m, i < m → m < k → isAt l a.tx 3 m = false ∧ isAt l a.tx 4 m = false := fun m h1 h2 => by
      constructor
      · cases h : isAt l a.tx 3 m with
        | false => rfl
        | true => rw [(endB_iff _ _ _ _).2 ⟨m, h1, h2, .inl h⟩] at hend; cases hend
      · cases h : isAt l a.tx 4 m with
        | false => rfl
        | true => rw [(endB_iff _ _ _ _).2 ⟨m, h1, h2, .inr h⟩] at hend; cases hend
    have key : ∀ m, i < m → m ≤ k → ownK l m a.key = some a.tx := by
      intro m
      induction m with
      | zero => intro h; omega
      | succ m ih =>
        intro h1 h2'
        simp only [ownK]
        rcases (by omega : i = m ∨ i < m) with rfl | h3
        · rw [ha]
          simp [h2]
        · have h4 := ih h3 (by omega)
          cases he : l[m]? with
          | none => exact h4
          | some e =>
            dsimp only
            by_cases c1 : e.kind = 2 ∧ e.key = a.key
            · rw [if_pos c1]
              have := hP m e he (.inr c1.1)
              rw [c1.2, h4] at this
              rcases this with h | h
              · cases h
              · exact h.symm
            · rw [if_neg c1, if_neg, h4]
              rintro ⟨hk', ho⟩
              rw [h4] at ho
              have ht : a.tx = e.tx := Option.some.inj ho
              have h5 := hno m h3 (by omega)
              rw [isAt_of he, isAt_of he, ht] at h5
              rcases hk' with h | h <;> simp [h] at h5
    have h1 := hP k b hb hk
    rw [← hkey, key k hik (Nat.le_refl _)] at h1
    rcases h1 with h | h
    · cases h
    · exact hne (Option.some.inj h)
theorem key_toList {s t : ByteArray} (h : (s.toList == t.toList) = true) : s = t := by
  have h1 := eq_of_beq h
  rw [ByteArray.toList_eq, ByteArray.toList_eq] at h1
  exact WideShapes.bytes_inj h1

/-- A flag that tells p. -/
structure FlagT (r : Ending) (p : Prop) : Prop where
  out : ∃ b, r = .returned (.bool b) ∧ (b = true ↔ p)
set_option maxHeartbeats 4000000 in
set_option maxRecDepth 100000 in
theorem rstrict_ok {w : World} {v : Value} {l : List EvD} (h : EvsE w v l) (hl : l.length ≤ 60) : Calls Try.prog 17 #[v] w fun r w' => FlagT r (StrictP l) ∧ Upd Nowhere w w' := by
  obtain ⟨A, c, rfl, hc⟩ := h.val
  have H := Lib.hid h
  clear h
  have HTL : Hid (∀ i k, TouchAt l i k → k < l.length) := Lib.hid fun i k ⟨_, _, _, h, _⟩ => (List.getElem?_eq_some_iff.1 h).1
  go_enter Try.func17, Try.ntmps17
  go_wp2_with fail
  go_loopw [3] (fun s wr => ∃ k : Nat, k ≤ l.length ∧ s = .int .i64 k ∧ (∀ i k', i < k' → k' < k → ¬ TouchAt l i k') ∧ Upd Nowhere w wr) (fun s _ => l.length - (intOf s).toNat)
  case atStart => exact ⟨0, by omega, rfl, fun i k' h1 h2 => by omega, Upd.refl _ _⟩
  case round =>
    obtain ⟨k, hk, rfl, hno, hu⟩ := hrel
    have HNO := Lib.hid hno
    have HU := Lib.hid hu
    clear hno hu
    by_cases hlt : k < l.length
    · obtain ⟨b, hb⟩ : ∃ e, l[k]? = some e := ⟨_, List.getElem?_eq_getElem hlt⟩
      have hki : (k : Int) < (l.length : Nat) := by omega
      obtain ⟨b1, o1, c1, hE1, hb1, q0, q1, q2, q3, q4⟩ := event_at (H.out.upd HU.out fun _ _ => id) hb
      cases hE1
      have HB := Lib.hid hb
      clear hb
      by_cases hkd : b.kind = 1 ∨ b.kind = 2
      · have HKD := Lib.hid hkd
        have hpick : (b.kind != 1) = false ∨ (b.kind != 1) = true ∧ (b.kind != 2) = false := by
          rcases hkd with h | h
          · exact .inl (by simp [h])
          · exact .inr ⟨by simp [h], by simp [h]⟩
        clear hkd
        rcases hpick with n1 | ⟨n1, n2⟩
        all_goals
          obtain ⟨wo, rfl⟩ : ∃ wo, wo = wr := ⟨_, rfl⟩
          go_wp2_with fail
          go_loopw [4] (fun s wr => ∃ i : Nat, i ≤ k ∧ s = .int .i64 i ∧ (∀ i', i' < i → ¬ TouchAt l i' k) ∧ Upd Nowhere wo wr) (fun s _ => k - (intOf s).toNat)
          case atStart => exact ⟨0, by omega, rfl, fun i' h => by omega, Upd.refl _ _⟩
          case round =>
            obtain ⟨i, hi, rfl, hno, hu⟩ := hrel
            have HN2 := Lib.hid hno
            have HU2 := Lib.hid hu
            clear hno hu
            by_cases hik : i < k
            · obtain ⟨a, ha⟩ : ∃ e, l[i]? = some e := ⟨_, List.getElem?_eq_getElem (by omega)⟩
              have hiki : (i : Int) < (k : Nat) := by omega
              have hil : (i : Int) < (l.length : Nat) := by omega
              obtain ⟨b3, o3, c3, hE3, hb3, p0, p1, p2, p3, p4⟩ := event_at (H.out.upd (HU.out.trans (F := Nowhere) HU2.out fun _ _ => id) fun _ _ => id) ha
              cases hE3
              obtain ⟨b4, o4, c4, hE4, hb4, r0, r1, r2, r3, r4⟩ := event_at (H.out.upd (HU.out.trans (F := Nowhere) HU2.out fun _ _ => id) fun _ _ => id) HB.out
              cases hE4
              have HA := Lib.hid ha
              clear ha
              go_upto_region 8 with (fail)
              by_cases k2 : a.kind = 2
              · have m2 : (a.kind != 2) = false := by simp [k2]
                have K2 := Lib.hid k2
                clear k2
                cases hkb : (a.key.toList == b.key.toList) with
                | false =>
                  have HNT : Hid (¬ TouchAt l i k) := Lib.hid fun ⟨a', b', h1, h2, h3, h4, h5, h6, h7⟩ => by
                    have e1 := HA.out.symm.trans h1
                    have e2 := HB.out.symm.trans h2
                    cases e1
                    cases e2
                    rw [h5, beq_self_eq_true] at hkb; cases hkb
                  go_cut [63] (fun s wz => s = .bool true ∧ Upd Nowhere wr wz)
                  case first =>
                    go_quiet (fail)
                    go_wp2_with fail
                    go_meet
                    exact ⟨rfl, (Upd.refl Nowhere wr).drewN _⟩
                  case rest =>
                    obtain ⟨rfl, huq⟩ := hcut
                    go_wp2_with fail
                    go_roundw
                    case rel => exact ⟨i + 1, by omega, by go_num, fun i' h1 => by
                      rcases (by omega : i' < i ∨ i' = i) with h3 | rfl
                      · exact HN2.out i' h3
                      · exact HNT.out, HU2.out.trans (F := Nowhere) huq fun _ _ => id⟩
                    case measure => simp [intOf]; omega
                | true =>
                  have HKY : Hid (a.key = b.key) := Lib.hid (key_toList hkb)
                  by_cases ht : a.tx = b.tx
                  · have HNT : Hid (¬ TouchAt l i k) := Lib.hid fun ⟨a', b', h1, h2, h3, h4, h5, h6, h7⟩ => by
                      have e1 := HA.out.symm.trans h1
                      have e2 := HB.out.symm.trans h2
                      cases e1
                      cases e2
                      exact h6 ht
                    go_cut [63] (fun s wz => s = .bool true ∧ Upd Nowhere wr wz)
                    case first =>
                      go_quiet (fail)
                      go_wp2_with fail
                      go_meet
                      exact ⟨rfl, (Upd.refl Nowhere wr).drewN _⟩
                    case rest =>
                      obtain ⟨rfl, huq⟩ := hcut
                      go_wp2_with fail
                      go_roundw
                      case rel => exact ⟨i + 1, by omega, by go_num, fun i' h1 => by
                        rcases (by omega : i' < i ∨ i' = i) with h3 | rfl
                        · exact HN2.out i' h3
                        · exact HNT.out, HU2.out.trans (F := Nowhere) huq fun _ _ => id⟩
                      case measure => simp [intOf]; omega
                  · have hte : (a.tx == b.tx) = false := by simpa using ht
                    have HT := Lib.hid ht
                    go_cut [63] (fun s wz => s = .bool false ∧ Upd Nowhere wr wz)
                    case first =>
                      go_quiet (fail)
                      go_wp2_with fail
                      go_meet
                      exact ⟨rfl, (Upd.refl Nowhere wr).drewN _⟩
                    case rest =>
                      obtain ⟨rfl, huq⟩ := hcut
                      have HU3 := Lib.hid (HU2.out.trans (F := Nowhere) huq fun _ _ => id)
                      clear huq q0 q1 q2 q3 q4 p0 p1 p2 p3 p4 r0 r1 r2 r3 r4
                      go_wp2_with fail
                      go_loopw [5, 6] (fun f s wr => ∃ j : Nat, i < j ∧ j ≤ k ∧ f = .bool (endB l a.tx i j) ∧ s = .int .i64 j ∧ Upd Nowhere wo wr) (fun _ s _ => k - (intOf s).toNat)
                      case atStart => exact ⟨i + 1, by omega, by omega, by rw [endB_first _ _ _ _ (Nat.le_refl _)], by go_num, HU3.out⟩
                      case round =>
                        obtain ⟨j, hij, hjk, rfl, rfl, hu⟩ := hrel
                        have HU4 := Lib.hid hu
                        clear hu
                        by_cases hjlt : j < k
                        · obtain ⟨e, he⟩ : ∃ e, l[j]? = some e := ⟨_, List.getElem?_eq_getElem (by omega)⟩
                          have hji : (j : Int) < (k : Nat) := by omega
                          have hjl : (j : Int) < (l.length : Nat) := by omega
                          obtain ⟨b5, o5, c5, hE5, hb5, s0, s1, s2, s3, s4⟩ := event_at (H.out.upd (HU.out.trans (F := Nowhere) HU4.out fun _ _ => id) fun _ _ => id) he
                          cases hE5
                          obtain ⟨b6, o6, c6, hE6, hb6, p0, p1, p2, p3, p4⟩ := event_at (H.out.upd (HU.out.trans (F := Nowhere) HU4.out fun _ _ => id) fun _ _ => id) HA.out
                          cases hE6
                          have HE := Lib.hid he
                          clear he
                          go_upto_region 13 with (fail)
                          cases hbe : endB l a.tx i j with
                          | true =>
                            go_quiet (fail)
                            go_wp2_with fail
                            go_roundw
                            case rel => exact ⟨j + 1, by omega, by omega, by simp [endB, hbe, isAt_of HE.out], by go_num, HU4.out.drewN _⟩
                            case measure => simp [intOf]; omega
                          | false =>
                            by_cases hetx : e.tx = a.tx
                            · have t1 : (e.tx == a.tx) = true := by simpa using hetx
                              by_cases h3 : e.kind = 3
                              · have t3 : (e.kind == 3) = true := by simpa using h3
                                go_quiet (fail)
                                go_wp2_with fail
                                go_roundw
                                case rel => exact ⟨j + 1, by omega, by omega, by simp [endB, hbe, isAt_of HE.out, hij, hetx, h3], by go_num, HU4.out.drewN _⟩
                                case measure => simp [intOf]; omega
                              · have t3 : (e.kind == 3) = false := by simpa using h3
                                by_cases h4 : e.kind = 4
                                · have t4 : (e.kind == 4) = true := by simpa using h4
                                  go_quiet (fail)
                                  go_wp2_with fail
                                  go_roundw
                                  case rel => exact ⟨j + 1, by omega, by omega, by simp [endB, hbe, isAt_of HE.out, hij, hetx, h4], by go_num, HU4.out.drewN _⟩
                                  case measure => simp [intOf]; omega
                                · have t4 : (e.kind == 4) = false := by simpa using h4
                                  go_quiet (fail)
                                  go_wp2_with fail
                                  go_roundw
                                  case rel => exact ⟨j + 1, by omega, by omega, by simp [endB, hbe, isAt_of HE.out, hij, h3, h4], by go_num, HU4.out.drewN _⟩
                                  case measure => simp [intOf]; omega
                            · have t1 : (e.tx == a.tx) = false := by simpa using hetx
                              go_quiet (fail)
                              go_wp2_with fail
                              go_roundw
                              case rel => exact ⟨j + 1, by omega, by omega, by simp [endB, hbe, isAt_of HE.out, hetx], by go_num, HU4.out.drewN _⟩
                              case measure => simp [intOf]; omega
                        · have hji : ¬ (j : Int) < (k : Nat) := by omega
                          obtain rfl : j = k := by omega
                          cases hbe : endB l a.tx i j with
                          | true =>
                            have HNT : Hid (¬ TouchAt l i j) := Lib.hid fun ⟨a', b', h1, h2, h3, h4, h5, h6, h7⟩ => by
                              have e1 := HA.out.symm.trans h1
                              cases e1
                              rw [hbe] at h7
                              cases h7
                            go_wp2_with fail
                            go_roundw
                            case rel => exact ⟨i + 1, by omega, by go_num, fun i' h1 => by
                              rcases (by omega : i' < i ∨ i' = i) with h3 | rfl
                              · exact HN2.out i' h3
                              · exact HNT.out, HU4.out⟩
                            case measure => simp [intOf]; omega
                          | false =>
                            have HYT : Hid (TouchAt l i j) := Lib.hid ⟨a, b, HA.out, HB.out, HKD.out, K2.out, HKY.out, HT.out, hbe⟩
                            go_wp2_with fail
                            go_ret
                            refine ⟨⟨⟨false, rfl, ?_⟩⟩, HU.out.trans (F := Nowhere) HU4.out fun _ _ => id⟩
                            simp only [Bool.false_eq_true, false_iff]
                            exact fun h => h i j hik HYT.out
              · have m2 : (a.kind != 2) = true := by simpa using k2
                have HNT : Hid (¬ TouchAt l i k) := Lib.hid fun ⟨a', b', h1, h2, h3, h4, h5, h6, h7⟩ => by
                  have e1 := HA.out.symm.trans h1
                  have e2 := HB.out.symm.trans h2
                  cases e1
                  cases e2
                  exact k2 h4
                go_cut [63] (fun s wz => s = .bool true ∧ Upd Nowhere wr wz)
                case first =>
                  go_quiet (fail)
                  go_wp2_with fail
                  go_meet
                  exact ⟨rfl, (Upd.refl Nowhere wr).drewN _⟩
                case rest =>
                  obtain ⟨rfl, huq⟩ := hcut
                  go_wp2_with fail
                  go_roundw
                  case rel => exact ⟨i + 1, by omega, by go_num, fun i' h1 => by
                    rcases (by omega : i' < i ∨ i' = i) with h3 | rfl
                    · exact HN2.out i' h3
                    · exact HNT.out, HU2.out.trans (F := Nowhere) huq fun _ _ => id⟩
                  case measure => simp [intOf]; omega
            · have hiki : ¬ (i : Int) < (k : Nat) := by omega
              go_wp2_with fail
              go_roundw
              case rel => exact ⟨k + 1, by omega, by go_num, fun i' k' h1 h2 => by
                rcases (by omega : k' < k ∨ k' = k) with h3 | rfl
                · exact HNO.out i' k' h1 h3
                · exact HN2.out i' (by omega), HU.out.trans (F := Nowhere) HU2.out fun _ _ => id⟩
              case measure => simp [intOf]; omega
      · have n1 : (b.kind != 1) = true := by simpa using fun h => hkd (.inl h)
        have n2 : (b.kind != 2) = true := by simpa using fun h => hkd (.inr h)
        have HKD := Lib.hid hkd
        clear hkd
        go_wp2_with fail
        go_roundw
        case rel => exact ⟨k + 1, by omega, by go_num, fun i' k' h1 h2 => by
          rcases (by omega : k' < k ∨ k' = k) with h3 | rfl
          · exact HNO.out i' k' h1 h3
          · rintro ⟨_, b', _, hb', hk', _⟩
            rw [HB.out] at hb'
            cases hb'
            exact HKD.out hk', HU.out⟩
        case measure => simp [intOf]; omega
    · have hki : ¬ (k : Int) < (l.length : Nat) := by omega
      go_wp2_with fail
      go_ret
      refine ⟨⟨⟨true, rfl, ?_⟩⟩, HU.out⟩
      simp only [true_iff]
      exact fun i k' h1 h2 => HNO.out i k' h1 (by have := HTL.out _ _ h2; omega) h2
end Go.Proofs.Ytddknmgajacofaa
