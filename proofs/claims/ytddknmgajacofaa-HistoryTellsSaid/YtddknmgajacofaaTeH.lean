/-
  The document's Ahead: the sorted pairs of whoever is ahead of whom.
-/
import Derived.Test.YtddknmgajacofaaTeG
namespace Go.Proofs.Ytddknmgajacofaa
open Go Go.RowKit

/-- Events i and k make this pair. -/
def PairAt (l : List EvD) (i k : Nat) (p : Int × Int) : Prop := ∃ a b, l[i]? = some a ∧ l[k]? = some b ∧ wkOf l a i = true ∧ wkOf l b k = true ∧ a.tx ≠ b.tx ∧ a.key = b.key ∧ (a.kind = 2 ∨ b.kind = 2) ∧ p = (b.tx, a.tx)
structure AheadIs (l : List EvD) (E : Ed) : Prop where
  sorted : SortedE E
  mem : ∀ p, p ∈ E ↔ ∃ i k, i < k ∧ PairAt l i k p
theorem AheadIs.unique {l : List EvD} {E F : Ed} (h : AheadIs l E) (h' : AheadIs l F) : E = F := sortedE_unique h.sorted h'.sorted fun p => (h.mem p).trans (h'.mem p).symm
theorem prod_len (a b : List Int) : (a.flatMap fun x => b.map fun y => (x, y)).length = a.length * b.length := by
  induction a with
  | nil => simp
  | cons x a ih => rw [List.flatMap_cons, List.length_append, ih, List.length_map, List.length_cons, Nat.succ_mul]; omega
theorem pairs_len {l : List EvD} {E : Ed} (hs : SortedE E) (hm : ∀ p ∈ E, ∃ i k, PairAt l i k p) (hl : l.length ≤ 60) : E.length ≤ 3600 := by
  have := nodup_le (b := (l.map (·.tx)).flatMap fun x => (l.map (·.tx)).map fun y => (x, y)) (sortedE_nodup hs) fun p hp => by
    obtain ⟨i, k, a, b, h1, h2, _, _, _, _, _, rfl⟩ := hm p hp
    exact List.mem_flatMap.2 ⟨b.tx, List.mem_map_of_mem (List.mem_of_getElem? h2), List.mem_map_of_mem (List.mem_map_of_mem (List.mem_of_getElem? h1))⟩
  rw [prod_len, List.length_map] at this
  have : l.length * l.length ≤ 60 * 60 := Nat.mul_le_mul hl hl
  omega
/-- The pairs found, where the document's loops stand at i and k. -/
structure PairsN (l : List EvD) (i k : Nat) (E : Ed) : Prop where
  sorted : SortedE E
  mem : ∀ p, p ∈ E ↔ (∃ i' k', i' < i ∧ i' < k' ∧ PairAt l i' k' p) ∨ ∃ k', i < k' ∧ k' < k ∧ PairAt l i k' p
section
variable {l : List EvD} {i k : Nat} {E : Ed}
theorem PairsN.len (h : PairsN l i k E) (hl : l.length ≤ 60) : E.length ≤ 3600 := pairs_len h.sorted (fun p hp => by
  rcases (h.mem p).1 hp with ⟨a, b, _, _, h1⟩ | ⟨b, _, _, h1⟩
  · exact ⟨a, b, h1⟩
  · exact ⟨i, b, h1⟩) hl
theorem PairsN.start (l : List EvD) : PairsN l 0 1 [] := ⟨List.Pairwise.nil, fun p => by
  constructor
  · intro h; cases h
  · rintro (⟨_, _, h, _⟩ | ⟨_, h, h', _⟩) <;> omega⟩
theorem PairAt.lt {p : Int × Int} (h : PairAt l i k p) : k < l.length := by
  obtain ⟨_, b, _, h, _⟩ := h
  exact (List.getElem?_eq_some_iff.1 h).1
theorem PairsN.next (h : PairsN l i k E) (hk : l.length ≤ k) : PairsN l (i + 1) (i + 1 + 1) E := ⟨h.sorted, fun p => by
  rw [h.mem]
  constructor
  · rintro (⟨a, b, h1, h2, h3⟩ | ⟨b, h1, h2, h3⟩)
    · exact .inl ⟨a, b, by omega, h2, h3⟩
    · exact .inl ⟨i, b, by omega, h1, h3⟩
  · rintro (⟨a, b, h1, h2, h3⟩ | ⟨b, h1, h2, h3⟩)
    · rcases (by omega : a < i ∨ a = i) with h4 | rfl
      · exact .inl ⟨a, b, h4, h2, h3⟩
      · exact .inr ⟨b, h2, by have := h3.lt; omega, h3⟩
    · omega⟩
theorem PairsN.done (h : PairsN l i k E) (hi : l.length ≤ i) : AheadIs l E := ⟨h.sorted, fun p => by
  rw [h.mem]
  constructor
  · rintro (⟨a, b, h1, h2, h3⟩ | ⟨b, h1, h2, h3⟩)
    · exact ⟨a, b, h2, h3⟩
    · exact ⟨i, b, h1, h3⟩
  · rintro ⟨a, b, h2, h3⟩
    exact .inl ⟨a, b, by have := h3.lt; omega, h2, h3⟩⟩
theorem PairsN.miss (h : PairsN l i k E) (hno : ∀ p, ¬ PairAt l i k p) : PairsN l i (k + 1) E := ⟨h.sorted, fun p => by
  rw [h.mem]
  constructor
  · rintro (h1 | ⟨b, h1, h2, h3⟩)
    · exact .inl h1
    · exact .inr ⟨b, h1, by omega, h3⟩
  · rintro (h1 | ⟨b, h1, h2, h3⟩)
    · exact .inl h1
    · rcases (by omega : b < k ∨ b = k) with h4 | rfl
      · exact .inr ⟨b, h1, h4, h3⟩
      · exact absurd h3 (hno p)⟩
theorem PairsN.hit (h : PairsN l i k E) (hik : i < k) {q : Int × Int} (hq : PairAt l i k q) : PairsN l i (k + 1) (addE E q) := ⟨addE_sorted h.sorted q, fun p => by
  rw [mem_addE, h.mem]
  constructor
  · rintro (rfl | h1 | ⟨b, h1, h2, h3⟩)
    · exact .inr ⟨k, hik, by omega, hq⟩
    · exact .inl h1
    · exact .inr ⟨b, h1, by omega, h3⟩
  · rintro (h1 | ⟨b, h1, h2, h3⟩)
    · exact .inr (.inl h1)
    · rcases (by omega : b < k ∨ b = k) with h4 | rfl
      · exact .inr (.inr ⟨b, h1, h4, h3⟩)
      · refine .inl ?_
        obtain ⟨a, b, e1, e2, _, _, _, _, _, rfl⟩ := h3
        obtain ⟨a', b', e1', e2', _, _, _, _, _, rfl⟩ := hq
        rw [e1] at e1'
        rw [e2] at e2'
        cases e1'
        cases e2'
        rfl⟩
end
theorem addE_ne (E : Ed) (q : Int × Int) : addE E q ≠ [] := fun h => by
  have := (mem_addE E q q).2 (.inl rfl)
  rw [h] at this; cases this

set_option maxHeartbeats 4000000 in
set_option maxRecDepth 100000 in
theorem rahead_ok {w : World} {v : Value} {l : List EvD} (h : EvsE w v l) (hl : l.length ≤ 60) : Calls Try.prog 15 #[v] w fun r w' => ∃ v', r = .returned v' ∧ ∃ E, OwnP w.heap.size w' v' E ∧ AheadIs l E ∧ Upd Nowhere w w' := by
  obtain ⟨A, c, rfl, hc⟩ := h.val
  have H := Lib.hid h
  clear h
  go_enter Try.func15, Try.ntmps15
  go_wp2_with fail
  go_loopw [3, 4] (fun u s wr => ∃ (i : Nat) (E : Ed), i ≤ l.length ∧ s = .int .i64 i ∧ OwnP w.heap.size wr u E ∧ (E = [] → u = .slice none 0 0) ∧ PairsN l i (i + 1) E ∧ Upd Nowhere w wr) (fun _ s _ => l.length - (intOf s).toNat)
  case atStart => exact ⟨0, [], by omega, rfl, OwnR.nil _ _ _ _ _, fun _ => rfl, PairsN.start l, Upd.refl _ _⟩
  case round =>
    obtain ⟨i, E, hi, rfl, ho, hnil, hp, hu⟩ := hrel
    have HO := Lib.hid ho
    have HN := Lib.hid hnil
    have HP := Lib.hid hp
    have HU := Lib.hid hu
    clear ho hnil hp hu
    by_cases hlt : i < l.length
    · have hii : (i : Int) < (l.length : Nat) := by omega
      go_wp2_with fail
      go_loopw [3, 5] (fun u s wr => ∃ (k : Nat) (E : Ed), i < k ∧ k ≤ l.length ∧ s = .int .i64 k ∧ OwnP w.heap.size wr u E ∧ (E = [] → u = .slice none 0 0) ∧ PairsN l i k E ∧ Upd Nowhere w wr) (fun _ s _ => l.length - (intOf s).toNat)
      case atStart => exact ⟨i + 1, E, by omega, by omega, by go_num, HO.out, HN.out, HP.out, HU.out⟩
      case round =>
        obtain ⟨k, E1, hik, hk, rfl, ho, hnil, hp, hu⟩ := hrel
        have HO1 := Lib.hid ho
        have HN1 := Lib.hid hnil
        have HP1 := Lib.hid hp
        have HU1 := Lib.hid hu
        clear ho hnil hp hu
        by_cases hlt2 : k < l.length
        · have hki : (k : Int) < (l.length : Nat) := by omega
          obtain ⟨a, ha⟩ : ∃ e, l[i]? = some e := ⟨_, List.getElem?_eq_getElem hlt⟩
          obtain ⟨b, hb⟩ : ∃ e, l[k]? = some e := ⟨_, List.getElem?_eq_getElem hlt2⟩
          obtain ⟨b1, o1, c1, hE1, hb1, q0, q1, q2, q3, q4⟩ := event_at (H.out.upd HU1.out fun _ _ => id) ha
          obtain ⟨b2, o2, c2, hE2, hb2, p0, p1, p2, p3, p4⟩ := event_at (H.out.upd HU1.out fun _ _ => id) hb
          cases hE1
          simp only [Value.slice.injEq, Option.some.injEq, Addr.mk.injEq] at hE2
          obtain ⟨⟨rfl, rfl, _⟩, _, rfl⟩ := hE2
          have HA := Lib.hid ha
          have HB := Lib.hid hb
          clear ha hb
          go_upto_region 8 with (fail)
          go_cut [6, 7] (fun s t wz => ∃ g6 g7, s = .pointer (some ⟨g6, 0, none⟩) ∧ t = .pointer (some ⟨g7, 0, none⟩) ∧ Blk wz g6 41 a.arr ∧ Blk wz g7 41 b.arr ∧ w.heap.size ≤ g6 ∧ w.heap.size ≤ g7 ∧ Upd Nowhere wr wz)
          case first =>
            go_region_held3 (fun w' => w'.cell? ⟨b1, o1 + i * 5, none⟩ = some (.int .i64 a.kind) ∧ w'.cell? ⟨b1, o1 + i * 5 + 1, none⟩ = some (.int .i64 a.tx) ∧ w'.cell? ⟨b1, o1 + i * 5 + 2, none⟩ = some (.string a.key) ∧ w'.cell? ⟨b1, o1 + i * 5 + 3, none⟩ = some (.bool a.has) ∧ w'.cell? ⟨b1, o1 + i * 5 + 4, none⟩ = some (.string a.data) ∧ w'.cell? ⟨b1, o1 + k * 5, none⟩ = some (.int .i64 b.kind) ∧ w'.cell? ⟨b1, o1 + k * 5 + 1, none⟩ = some (.int .i64 b.tx) ∧ w'.cell? ⟨b1, o1 + k * 5 + 2, none⟩ = some (.string b.key) ∧ w'.cell? ⟨b1, o1 + k * 5 + 3, none⟩ = some (.bool b.has) ∧ w'.cell? ⟨b1, o1 + k * 5 + 4, none⟩ = some (.string b.data)) (first | exact ⟨q0, q1, q2, q3, q4, p0, p1, p2, p3, p4⟩ | go_keep)
              (fail)
            all_goals
              go_wp2_with fail
              go_meet
              first
                | exact ⟨_, _, rfl, rfl, ((Blk.new _ _ _).alloc _).drew, (Blk.new' _ _ _ (by simp)).drew, HU1.out.size, Nat.le_succ_of_le HU1.out.size, (((Upd.refl Nowhere wr).alloc _).alloc _).drew⟩
                | exact ⟨_, _, rfl, rfl, (Blk.new' _ _ _ (by simp)).drew, ((Blk.new _ _ _).alloc _).drew, Nat.le_succ_of_le HU1.out.size, HU1.out.size, (((Upd.refl Nowhere wr).alloc _).alloc _).drew⟩
          case rest =>
            obtain ⟨g6, g7, rfl, rfl, hg6, hg7, hs6, hs7, huq⟩ := hcut
            have HUZ := Lib.hid (HU1.out.trans (F := Nowhere) huq fun _ _ => id)
            have HOZ := Lib.hid (HO1.out.upd huq fun _ _ => id)
            have HEZ := Lib.hid (H.out.upd HUZ.out fun _ _ => id)
            have c6 := hg6.cell
            have c7 := hg7.cell
            have HLE := Lib.hid (HP1.out.len hl)
            clear hg6 hg7 q0 q1 q2 q3 q4 p0 p1 p2 p3 p4 huq
            go_wp2_with fail
            refine (hworks_ok HEZ.out (by omega) HA.out).mono ?_
            rintro r w9 ⟨rfl, rfl⟩
            cases w1 : wkOf l a i with
            | false =>
              have HM : Hid (∀ p, ¬ PairAt l i k p) := Lib.hid fun p ⟨a', b', h1, h2, h3, h4, h5, h6, h7, _⟩ => by
                have e1 := HA.out.symm.trans h1
                have e2 := HB.out.symm.trans h2
                cases e1
                cases e2
                rw [w1] at h3; cases h3
              go_wp2_with fail
              go_roundw
              case rel => exact ⟨k + 1, E1, by omega, by omega, by go_num, HOZ.out, HN1.out, HP1.out.miss HM.out, HUZ.out⟩
              case measure => simp [intOf]; omega
            | true =>
              go_wp2_with fail
              refine (hworks_ok HEZ.out (by omega) HB.out).mono ?_
              rintro r w9 ⟨rfl, rfl⟩
              cases w2 : wkOf l b k with
              | false =>
                have HM : Hid (∀ p, ¬ PairAt l i k p) := Lib.hid fun p ⟨a', b', h1, h2, h3, h4, h5, h6, h7, _⟩ => by
                  have e1 := HA.out.symm.trans h1
                  have e2 := HB.out.symm.trans h2
                  cases e1
                  cases e2
                  rw [w2] at h4; cases h4
                go_wp2_with fail
                go_roundw
                case rel => exact ⟨k + 1, E1, by omega, by omega, by go_num, HOZ.out, HN1.out, HP1.out.miss HM.out, HUZ.out⟩
                case measure => simp [intOf]; omega
              | true =>
                by_cases ht : a.tx = b.tx
                · have HM : Hid (∀ p, ¬ PairAt l i k p) := Lib.hid fun p ⟨a', b', h1, h2, h3, h4, h5, h6, h7, _⟩ => by
                    have e1 := HA.out.symm.trans h1
                    have e2 := HB.out.symm.trans h2
                    cases e1
                    cases e2
                    exact h5 ht
                  go_wp2_with fail
                  go_roundw
                  case rel => exact ⟨k + 1, E1, by omega, by omega, by go_num, HOZ.out, HN1.out, HP1.out.miss HM.out, HUZ.out⟩
                  case measure => simp [intOf]; omega
                · have hte : (a.tx != b.tx) = true := by simpa using ht
                  cases hkb : (a.key.toList == b.key.toList) with
                  | false =>
                    have HM : Hid (∀ p, ¬ PairAt l i k p) := Lib.hid fun p ⟨a', b', h1, h2, h3, h4, h5, h6, h7, _⟩ => by
                      have e1 := HA.out.symm.trans h1
                      have e2 := HB.out.symm.trans h2
                      cases e1
                      cases e2
                      rw [h6, beq_self_eq_true] at hkb; cases hkb
                    go_wp2_with fail
                    go_roundw
                    case rel => exact ⟨k + 1, E1, by omega, by omega, by go_num, HOZ.out, HN1.out, HP1.out.miss HM.out, HUZ.out⟩
                    case measure => simp [intOf]; omega
                  | true =>
                    have HKY : Hid (a.key = b.key) := Lib.hid (by
                      have h1 := eq_of_beq hkb
                      rw [ByteArray.toList_eq, ByteArray.toList_eq] at h1
                      exact WideShapes.bytes_inj h1)
                    by_cases hk1 : a.kind = 2
                    · have HQ : Hid (PairAt l i k (b.tx, a.tx)) := Lib.hid ⟨a, b, HA.out, HB.out, w1, w2, ht, HKY.out, .inl hk1, rfl⟩
                      go_wp2_with (go_at_call 36; refine (addEdge_ok HOZ.out.els (Nat.le_trans HLE.out (by omega)) HN1.out b.tx a.tx).mono ?_; rintro r w9 ⟨v9, rfl, ho9, hu9⟩; have HO9 := Lib.hid (ho9.far fun k hk => Nat.le_trans HUZ.out.size (ho9.new k hk)); have HU9 := Lib.hid (HUZ.out.trans (F := Nowhere) hu9 fun _ _ => id); clear ho9 hu9)
                      go_roundw
                      case rel => exact ⟨k + 1, addE E1 (b.tx, a.tx), by omega, by omega, by go_num, HO9.out, fun e => absurd e (addE_ne _ _), HP1.out.hit hik HQ.out, HU9.out⟩
                      case measure => simp [intOf]; omega
                    · by_cases hk2 : b.kind = 2
                      · have HQ : Hid (PairAt l i k (b.tx, a.tx)) := Lib.hid ⟨a, b, HA.out, HB.out, w1, w2, ht, HKY.out, .inr hk2, rfl⟩
                        go_wp2_with (go_at_call 36; refine (addEdge_ok HOZ.out.els (Nat.le_trans HLE.out (by omega)) HN1.out b.tx a.tx).mono ?_; rintro r w9 ⟨v9, rfl, ho9, hu9⟩; have HO9 := Lib.hid (ho9.far fun k hk => Nat.le_trans HUZ.out.size (ho9.new k hk)); have HU9 := Lib.hid (HUZ.out.trans (F := Nowhere) hu9 fun _ _ => id); clear ho9 hu9)
                        go_roundw
                        case rel => exact ⟨k + 1, addE E1 (b.tx, a.tx), by omega, by omega, by go_num, HO9.out, fun e => absurd e (addE_ne _ _), HP1.out.hit hik HQ.out, HU9.out⟩
                        case measure => simp [intOf]; omega
                      · have hb1 : (a.kind == 2) = false := by simpa using hk1
                        have hb2 : (b.kind == 2) = false := by simpa using hk2
                        have HM : Hid (∀ p, ¬ PairAt l i k p) := Lib.hid fun p ⟨a', b', h1, h2, h3, h4, h5, h6, h7, _⟩ => by
                          have e1 := HA.out.symm.trans h1
                          have e2 := HB.out.symm.trans h2
                          cases e1
                          cases e2
                          exact h7.elim hk1 hk2
                        go_wp2_with fail
                        go_roundw
                        case rel => exact ⟨k + 1, E1, by omega, by omega, by go_num, HOZ.out, HN1.out, HP1.out.miss HM.out, HUZ.out⟩
                        case measure => simp [intOf]; omega
        · have hki : ¬ (k : Int) < (l.length : Nat) := by omega
          go_wp2_with fail
          go_roundw
          case rel => exact ⟨i + 1, E1, by omega, by go_num, HO1.out, HN1.out, HP1.out.next (by omega), HU1.out⟩
          case measure => simp [intOf]; omega
    · have hii : ¬ (i : Int) < (l.length : Nat) := by omega
      have HD := Lib.hid (HP.out.done (by omega))
      go_wp2_with fail
      go_ret
      exact ⟨_, rfl, E, HO.out, HD.out, HU.out⟩
end Go.Proofs.Ytddknmgajacofaa
