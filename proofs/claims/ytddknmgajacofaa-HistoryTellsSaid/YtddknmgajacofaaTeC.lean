/-
  The document's graph: in, From, Ring.
-/
import Derived.Test.YtddknmgajacofaaTeA
import Derived.Test.YtddknmgajacofaaHistJ
namespace Go.Proofs.Ytddknmgajacofaa
open Go Go.RowKit

abbrev EdE := Els 2 dirtyCells
abbrev OwnI := OwnR 3 numC 1
def lenV : Value → Nat
  | .slice _ n _ => n
  | _ => 0
def boolN : Value → Nat
  | .bool true => 1
  | _ => 0
theorem edge_at {w : World} {v : Value} {L : Ed} (h : EdE w v L) {i : Nat} {d : Int × Int} (hz : L[i]? = some d) : ∃ b off c, v = .slice (some ⟨b, off, none⟩) L.length c ∧ b < w.heap.size ∧
    w.cell? ⟨b, off + i * 2, none⟩ = some (.int .i64 d.1) ∧ w.cell? ⟨b, off + i * 2 + 1, none⟩ = some (.int .i64 d.2) := dirty_at h hz
theorem ownI_len {B : Nat} {w : World} {v : Value} {L : List Int} (h : OwnI B w v L) : lenV v = L.length := by
  obtain ⟨A, c, rfl, _⟩ := h.els.val
  rfl

set_option maxHeartbeats 1000000 in
theorem in14_ok {w : World} {v : Value} {l : List Int} (h : NumsE w v l) (hl : l.length ≤ 100000) (n : Int) : Calls Try.prog 67 #[v, .int .i64 n] w fun e w' => e = .returned (.bool (decide (n ∈ l))) ∧ w' = w := by
  obtain ⟨A, c, rfl, hc⟩ := h.val
  have H := Lib.hid h
  clear h
  go_enter Try.func67, Try.ntmps67
  go_wp2_with fail
  go_loopw [5] (fun t wr => ∃ k : Nat, k ≤ l.length ∧ t = .int .i64 k ∧ (∀ j, j < k → l[j]? ≠ some n) ∧ wr = w) (fun t _ => l.length - (intOf t).toNat)
  case atStart => exact ⟨0, by omega, rfl, fun j hj => absurd hj (by omega), rfl⟩
  case round =>
    obtain ⟨k, hk, rfl, hno, rfl⟩ := hrel
    by_cases hlt : k < l.length
    · obtain ⟨m, hm⟩ : ∃ m, l[k]? = some m := ⟨_, List.getElem?_eq_getElem hlt⟩
      obtain ⟨b, off, c', he, hb, h0⟩ := num_at H.out hm
      cases he
      have hi : (k : Int) < (l.length : Nat) := by omega
      have HNO := Lib.hid hno
      have HM := Lib.hid hm
      clear hno hm
      by_cases heq : m = n
      · subst heq
        go_wp2_with fail
        go_ret
        refine ⟨?_, rfl⟩
        have : m ∈ l := List.mem_of_getElem? HM.out
        simp [this]
      · go_wp2_with fail
        go_roundw
        case rel =>
          refine ⟨k + 1, by omega, by go_num, fun j hj => ?_, by trivial⟩
          rcases (by omega : j < k ∨ j = k) with h1 | rfl
          · exact HNO.out j h1
          · rw [HM.out]; intro e; exact heq (Option.some.inj e)
        case measure => simp [intOf]; omega
    · have e : ¬ (k : Int) < (l.length : Nat) := by omega
      have HNO := Lib.hid hno
      clear hno
      go_wp2_with fail
      go_ret
      refine ⟨?_, rfl⟩
      have : n ∉ l := fun hm => by
        obtain ⟨j, hj, e⟩ := List.getElem_of_mem hm
        exact HNO.out j (by omega) (by rw [List.getElem?_eq_getElem hj, e])
      simp [this]

/-- So far as the first j edges tell, nobody is left out. -/
def FromC (E : Ed) (n : Int) (L : List Int) (j : Nat) : Prop := ∀ i a b, i < j → E[i]? = some (a, b) → a = n ∨ a ∈ L → b ∈ L
structure FromL (E : Ed) (n : Int) (L : List Int) : Prop where
  sound : ∀ b ∈ L, Rch E n b
  nd : L.Nodup
  len : L.length ≤ E.length
theorem FromL.nil (E : Ed) (n : Int) : FromL E n [] := ⟨fun _ h => (by cases h), List.nodup_nil, Nat.zero_le _⟩
theorem FromL.add {E : Ed} {n : Int} {L : List Int} (h : FromL E n L) {a b : Int} (he : (a, b) ∈ E) (ha : a = n ∨ a ∈ L) (hb : b ∉ L) : FromL E n (L ++ [b]) := by
  have hs : ∀ x ∈ L ++ [b], Rch E n x := fun x hx => by
    rcases List.mem_append.1 hx with hx | hx
    · exact h.sound x hx
    · rw [List.mem_singleton] at hx
      subst hx
      rcases ha with rfl | ha
      · exact .one he
      · exact .snoc (h.sound a ha) he
  have hn : (L ++ [b]).Nodup := by
    rw [List.nodup_append]
    exact ⟨h.nd, by simp, fun x hx y hy e => by
      rw [List.mem_singleton] at hy
      subst hy
      exact hb (e ▸ hx)⟩
  refine ⟨hs, hn, ?_⟩
  have := nodup_le (b := E.map (·.2)) hn fun x hx => by
    obtain ⟨d, hd⟩ := (hs x hx).last
    exact List.mem_map.2 ⟨(d, x), hd, rfl⟩
  rwa [List.length_map] at this
theorem from_all {E : Ed} {n : Int} {L : List Int} (h : FromL E n L) (hc : FromC E n L E.length) (b : Int) : b ∈ L ↔ Rch E n b := by
  refine ⟨h.sound b, fun hr => ?_⟩
  have hc' : ∀ a b, (a, b) ∈ E → a = n ∨ a ∈ L → b ∈ L := fun a b he ha => by
    obtain ⟨i, hi⟩ := List.mem_iff_getElem?.1 he
    exact hc i a b (List.getElem?_eq_some_iff.1 hi).1 hi ha
  clear hc
  induction hr with
  | one e => exact hc' _ _ e (.inl rfl)
  | snoc _ e ih => exact hc' _ _ e (.inr ih)
theorem FromC.more {E : Ed} {n : Int} {L : List Int} {j : Nat} (h : FromC E n L j) {a b : Int} (he : E[j]? = some (a, b)) (hx : a = n ∨ a ∈ L → b ∈ L) : FromC E n L (j + 1) := by
  intro i a' b' hi he' ha
  rcases (by omega : i < j ∨ i = j) with h1 | rfl
  · exact h i a' b' h1 he' ha
  · rw [he] at he'
    cases he'
    exact hx ha

set_option maxHeartbeats 4000000 in
set_option maxRecDepth 100000 in
theorem from_ok {w : World} {v : Value} {E : Ed} (h : EdE w v E) (hl : E.length ≤ 10000) (n : Int) : Calls Try.prog 68 #[v, .int .i64 n] w fun r w' => ∃ v' L, r = .returned v' ∧ OwnI w.heap.size w' v' L ∧ FromL E n L ∧ (∀ b, b ∈ L ↔ Rch E n b) ∧ Upd Nowhere w w' := by
  obtain ⟨A, c, rfl, hc⟩ := h.val
  have H := Lib.hid h
  have HL := Lib.hid hl
  clear h
  go_enter Try.func68, Try.ntmps68
  go_wp2_with fail
  go_loopw [5, 6] (fun u m wr => ∃ L, OwnI w.heap.size wr u L ∧ FromL E n L ∧ Upd Nowhere w wr ∧ (m = .bool true ∨ m = .bool false ∧ FromC E n L E.length)) (fun u m _ => 2 * (E.length - lenV u) + boolN m)
  case atStart => exact ⟨[], OwnR.nil _ _ _ _ _, FromL.nil _ _, Upd.refl _ _, .inl rfl⟩
  case round =>
    obtain ⟨L, ho, hf, hu, rfl | ⟨rfl, hC⟩⟩ := hrel
    · have HO := Lib.hid ho
      have HF := Lib.hid hf
      have HU := Lib.hid hu
      have HLV := Lib.hid (ownI_len ho)
      clear ho hf hu
      go_wp2_with fail
      go_loopw [5, 6, 7] (fun u m i wr => ∃ (L1 : List Int) (j : Nat), j ≤ E.length ∧ i = .int .i64 j ∧ OwnI w.heap.size wr u L1 ∧ FromL E n L1 ∧ Upd Nowhere w wr ∧ (m = .bool true ∧ L.length < L1.length ∨ m = .bool false ∧ L1.length = L.length ∧ FromC E n L1 j)) (fun _ _ i _ => E.length - (intOf i).toNat)
      case atStart => exact ⟨L, 0, by omega, rfl, HO.out, HF.out, HU.out, .inr ⟨rfl, rfl, fun i a b hi => by omega⟩⟩
      case round =>
        obtain ⟨L1, j, hj, rfl, ho, hf, hu, hm⟩ := hrel
        by_cases hlt : j < E.length
        · obtain ⟨⟨a, b⟩, he⟩ : ∃ e, E[j]? = some e := ⟨_, List.getElem?_eq_getElem hlt⟩
          obtain ⟨b1, o1, c1, hE1, hb1, q0, q1⟩ := edge_at (H.out.upd hu fun _ _ => id) he
          cases hE1
          have hi : (j : Int) < (E.length : Nat) := by omega
          have HO1 := Lib.hid ho
          have HF1 := Lib.hid hf
          have HU1 := Lib.hid hu
          have HE := Lib.hid he
          have HM := Lib.hid hm
          have HL1 := Lib.hid (Nat.le_trans hf.len HL.out)
          clear ho hf hu he hm
          by_cases e1 : a = n
          · have HA : Hid (a = n ∨ a ∈ L1) := Lib.hid (.inl e1)
            by_cases hB : b ∈ L1
            · have hdB : decide (b ∈ L1) = true := by simp [hB]
              have HB := Lib.hid hB
              clear hB
              go_wp2_with (go_at_call 67; refine (in14_ok HO1.out.els (Nat.le_trans HL1.out (by omega)) _).mono ?_; rintro e _ ⟨rfl, rfl⟩; first | rw [hdA] | rw [hdB])
              go_roundw
              case rel =>
                refine ⟨L1, j + 1, by omega, by go_num, HO1.out, HF1.out, HU1.out, ?_⟩
                rcases HM.out with ⟨rfl, h⟩ | ⟨rfl, h1, h2⟩
                · exact .inl ⟨rfl, h⟩
                · exact .inr ⟨rfl, h1, h2.more HE.out fun _ => HB.out⟩
              case measure => simp [intOf]; omega
            · have hdB : decide (b ∈ L1) = false := by simp [hB]
              have HB := Lib.hid (HF1.out.add (List.mem_of_getElem? HE.out) HA.out hB)
              clear hB
              obtain ⟨v3, w3, hr3, ho3, hg3, hb3⟩ := rkI.app1 HO1.out (by have := HU1.out.size; omega) 25 b #[.int .i64 b] rfl (by have := HL1.out; omega)
              have HR3 := Lib.hid hr3
              have HO3 := Lib.hid ho3
              have HG3 := Lib.hid hg3
              clear hr3 ho3 hg3 hb3
              go_wp2_with (first | (go_at_call 67; refine (in14_ok HO1.out.els (Nat.le_trans HL1.out (by omega)) _).mono ?_; rintro e _ ⟨rfl, rfl⟩; first | rw [hdA] | rw [hdB]) | (at_builtin; refine wpList_append_run rfl _ _ _ rfl rfl rfl HR3.out ?_))
              go_roundw
              case rel =>
                refine ⟨L1 ++ [b], j + 1, by omega, by go_num, HO3.out, HB.out, HU1.out.grown HG3.out fun k hk h => by have := HO1.out.new k hk; omega, .inl ⟨rfl, ?_⟩⟩
                rcases HM.out with ⟨_, h⟩ | ⟨_, h1, h2⟩
                · simp; omega
                · simp; omega
              case measure => simp [intOf]; omega
          · by_cases hA : a ∈ L1
            · have HA : Hid (a = n ∨ a ∈ L1) := Lib.hid (.inr hA)
              have hdA : decide (a ∈ L1) = true := by simp [hA]
              clear hA
              by_cases hB : b ∈ L1
              · have hdB : decide (b ∈ L1) = true := by simp [hB]
                have HB := Lib.hid hB
                clear hB
                go_wp2_with (go_at_call 67; refine (in14_ok HO1.out.els (Nat.le_trans HL1.out (by omega)) _).mono ?_; rintro e _ ⟨rfl, rfl⟩; first | rw [hdA] | rw [hdB])
                go_roundw
                case rel =>
                  refine ⟨L1, j + 1, by omega, by go_num, HO1.out, HF1.out, HU1.out, ?_⟩
                  rcases HM.out with ⟨rfl, h⟩ | ⟨rfl, h1, h2⟩
                  · exact .inl ⟨rfl, h⟩
                  · exact .inr ⟨rfl, h1, h2.more HE.out fun _ => HB.out⟩
                case measure => simp [intOf]; omega
              · have hdB : decide (b ∈ L1) = false := by simp [hB]
                have HB := Lib.hid (HF1.out.add (List.mem_of_getElem? HE.out) HA.out hB)
                clear hB
                obtain ⟨v3, w3, hr3, ho3, hg3, hb3⟩ := rkI.app1 HO1.out (by have := HU1.out.size; omega) 25 b #[.int .i64 b] rfl (by have := HL1.out; omega)
                have HR3 := Lib.hid hr3
                have HO3 := Lib.hid ho3
                have HG3 := Lib.hid hg3
                clear hr3 ho3 hg3 hb3
                go_wp2_with (first | (go_at_call 67; refine (in14_ok HO1.out.els (Nat.le_trans HL1.out (by omega)) _).mono ?_; rintro e _ ⟨rfl, rfl⟩; first | rw [hdA] | rw [hdB]) | (at_builtin; refine wpList_append_run rfl _ _ _ rfl rfl rfl HR3.out ?_))
                go_roundw
                case rel =>
                  refine ⟨L1 ++ [b], j + 1, by omega, by go_num, HO3.out, HB.out, HU1.out.grown HG3.out fun k hk h => by have := HO1.out.new k hk; omega, .inl ⟨rfl, ?_⟩⟩
                  rcases HM.out with ⟨_, h⟩ | ⟨_, h1, h2⟩
                  · simp; omega
                  · simp; omega
                case measure => simp [intOf]; omega
            · have hdA : decide (a ∈ L1) = false := by simp [hA]
              have HA : Hid (¬ (a = n ∨ a ∈ L1)) := Lib.hid fun h => h.elim e1 hA
              clear hA
              go_wp2_with (go_at_call 67; refine (in14_ok HO1.out.els (Nat.le_trans HL1.out (by omega)) _).mono ?_; rintro e _ ⟨rfl, rfl⟩; first | rw [hdA] | rw [hdB])
              go_roundw
              case rel =>
                refine ⟨L1, j + 1, by omega, by go_num, HO1.out, HF1.out, HU1.out, ?_⟩
                rcases HM.out with ⟨rfl, h⟩ | ⟨rfl, h1, h2⟩
                · exact .inl ⟨rfl, h⟩
                · exact .inr ⟨rfl, h1, h2.more HE.out fun h => absurd h HA.out⟩
              case measure => simp [intOf]; omega
        · have hi : ¬ (j : Int) < (E.length : Nat) := by omega
          obtain rfl : j = E.length := by omega
          have HO1 := Lib.hid ho
          have HF1 := Lib.hid hf
          have HU1 := Lib.hid hu
          have HM := Lib.hid hm
          clear ho hf hu hm
          go_wp2_with fail
          go_roundw
          case rel =>
            refine ⟨L1, HO1.out, HF1.out, HU1.out, ?_⟩
            rcases HM.out with ⟨rfl, h⟩ | ⟨rfl, h1, h2⟩
            · exact .inl rfl
            · exact .inr ⟨rfl, h2⟩
          case measure =>
            rw [ownI_len HO1.out, HLV.out]
            have := HF1.out.len
            rcases HM.out with ⟨rfl, h⟩ | ⟨rfl, h1, h2⟩
            · simp [boolN]; omega
            · simp [boolN]; omega
    · have HO := Lib.hid ho
      have HF := Lib.hid hf
      have HU := Lib.hid hu
      have HC := Lib.hid (from_all hf hC)
      clear ho hf hu hC
      go_wp2_with fail
      go_ret
      exact ⟨_, L, rfl, HO.out, HF.out, HC.out, HU.out⟩
end Go.Proofs.Ytddknmgajacofaa
