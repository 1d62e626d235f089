/-
  The document's graph: Ring, Numbers, Victim: is there a ring?
-/
import Derived.Test.YtddknmgajacofaaTeC
import Derived.Test.YtddknmgajacofaaHistT
namespace Go.Proofs.Ytddknmgajacofaa
open Go Go.RowKit

theorem ring_ok {w : World} {v : Value} {E : Ed} (h : EdE w v E) (hl : E.length ≤ 10000) (n : Int) : Calls Try.prog 43 #[v, .int .i64 n] w fun r w' => (∃ b, r = .returned (.bool b) ∧ (b = true ↔ Rch E n n)) ∧ Upd Nowhere w w' := by
  have H := Lib.hid h
  clear h
  go_enter Try.func43, Try.ntmps43
  go_wp2_with fail
  refine (from_ok H.out hl n).mono ?_
  rintro r w1 ⟨u, L, rfl, ho, hf, hL, hu⟩
  have HO := Lib.hid ho
  have HU := Lib.hid hu
  have HL := Lib.hid hL
  have HF := Lib.hid (Nat.le_trans hf.len hl)
  clear ho hu hL hf
  go_wp2_with fail
  refine (in14_ok HO.out.els (Nat.le_trans HF.out (by omega)) n).mono ?_
  rintro r _ ⟨rfl, rfl⟩
  go_wp2_with fail
  go_ret
  exact ⟨⟨_, rfl, by rw [decide_eq_true_eq]; exact HL.out n⟩, HU.out⟩

/-- A number of the first i pairs. -/
def numsP (E : Ed) (i : Nat) (x : Int) : Prop := ∃ t a b, t < i ∧ E[t]? = some (a, b) ∧ (x = a ∨ x = b)
theorem numsP_zero (E : Ed) (x : Int) : ¬ numsP E 0 x := fun ⟨_, _, _, h, _⟩ => by omega
theorem numsP_succ {E : Ed} {i : Nat} {a b : Int} (h : E[i]? = some (a, b)) (x : Int) : numsP E (i + 1) x ↔ numsP E i x ∨ x = a ∨ x = b := by
  constructor
  · rintro ⟨t, a', b', ht, he, hx⟩
    rcases (by omega : t < i ∨ t = i) with h1 | rfl
    · exact .inl ⟨t, a', b', h1, he, hx⟩
    · rw [h] at he
      cases he
      exact .inr hx
  · rintro (⟨t, a', b', ht, he, hx⟩ | hx)
    · exact ⟨t, a', b', by omega, he, hx⟩
    · exact ⟨i, a, b, by omega, h, hx⟩
theorem numsP_all {E : Ed} {x : Int} : numsP E E.length x ↔ ∃ a b, (a, b) ∈ E ∧ (x = a ∨ x = b) := by
  constructor
  · rintro ⟨t, a, b, _, he, hx⟩
    exact ⟨a, b, List.mem_of_getElem? he, hx⟩
  · rintro ⟨a, b, hm, hx⟩
    obtain ⟨t, ht⟩ := List.mem_iff_getElem?.1 hm
    exact ⟨t, a, b, (List.getElem?_eq_some_iff.1 ht).1, ht, hx⟩
theorem mem_put {O : List Int} (j : Nat) (n x : Int) : x ∈ O.take j ++ [n] ++ O.drop j ↔ x ∈ O ∨ x = n := by
  have h : x ∈ O ↔ x ∈ O.take j ∨ x ∈ O.drop j := by rw [← List.mem_append, List.take_append_drop]
  rw [List.mem_append, List.mem_append, List.mem_singleton, h]
  constructor
  · rintro ((h | h) | h)
    · exact .inl (.inl h)
    · exact .inr h
    · exact .inl (.inr h)
  · rintro ((h | h) | h)
    · exact .inl (.inl h)
    · exact .inr h
    · exact .inl (.inr h)
theorem flat_num (L : List Int) : L.flatMap numC = L.map (Value.int .i64) := by
  induction L with
  | nil => rfl
  | cons x L ih => rw [List.flatMap_cons, ih]; rfl
theorem num_cells {w : World} {b off c : Nat} {L : List Int} (h : NumsE w (.slice (some ⟨b, off, none⟩) L.length c) L) (h0 : 0 < L.length) (j : Nat) : ∀ i u, ((L.drop j).flatMap numC)[i]? = some u → w.cell? ((⟨b, off + j, none⟩ : Addr).add i) = some u := by
  obtain ⟨b', off', c', he, _, hc⟩ := Reads.addr h h0
  cases he
  intro i u hi
  rw [flat_num, List.map_drop, List.getElem?_drop] at hi
  have e : (⟨b, off + j, none⟩ : Addr).add i = ⟨b, off + (j + i), none⟩ := by unfold Addr.add; split <;> simp_all [Nat.add_assoc]
  rw [e]
  exact hc _ _ (by rw [flat_num]; exact hi)
theorem ownI_form {B : Nat} {w : World} {v : Value} {L : List Int} (h : OwnI B w v L) : (v = .slice none 0 0 ∧ L = []) ∨ ∃ g cap, v = .slice (some ⟨g, 0, none⟩) L.length cap ∧ L.length ≤ cap := by
  rcases h.row.2 with ⟨h1, h0⟩ | ⟨g, cap, cur, h1, _, _, hc, _⟩
  · exact .inl ⟨h1, List.length_eq_zero_iff.1 h0⟩
  · exact .inr ⟨g, cap, h1, hc⟩
set_option maxHeartbeats 4000000 in
set_option maxRecDepth 100000 in
theorem numbers_ok {w : World} {v : Value} {E : Ed} (h : EdE w v E) (hl : E.length ≤ 10000) : Calls Try.prog 42 #[v] w fun r w' => ∃ v', r = .returned v' ∧ ∃ O, OwnI w.heap.size w' v' O ∧ (∀ x, x ∈ O ↔ numsP E E.length x) ∧ O.length ≤ 2 * E.length ∧ Upd Nowhere w w' := by
  obtain ⟨A, c, rfl, hc⟩ := h.val
  have H := Lib.hid h
  clear h
  go_enter Try.func42, Try.ntmps42
  go_wp2_with fail
  go_loopw [3, 4] (fun u s wr => ∃ (i : Nat) (O : List Int), i ≤ E.length ∧ s = .int .i64 i ∧ OwnI w.heap.size wr u O ∧ (∀ x, x ∈ O ↔ numsP E i x) ∧ O.length ≤ 2 * i ∧ Upd Nowhere w wr) (fun _ s _ => E.length - (intOf s).toNat)
  case atStart => exact ⟨0, [], by omega, rfl, OwnR.nil _ _ _ _ _, fun x => by simp [numsP_zero], by simp, Upd.refl _ _⟩
  case round =>
    obtain ⟨i, O, hi, rfl, ho, hO, hol, hu⟩ := hrel
    have HO := Lib.hid ho
    have HM := Lib.hid hO
    have HU := Lib.hid hu
    clear ho hO hu
    by_cases hlt : i < E.length
    · obtain ⟨⟨a, b⟩, he⟩ : ∃ e, E[i]? = some e := ⟨_, List.getElem?_eq_getElem hlt⟩
      have HE := Lib.hid he
      have HC : Hid (∀ W, Upd Nowhere w W → ∃ b1 o1, A = some ⟨b1, o1, none⟩ ∧ b1 < W.heap.size ∧ W.cell? ⟨b1, o1 + i * 2, none⟩ = some (.int .i64 a) ∧ W.cell? ⟨b1, o1 + i * 2 + 1, none⟩ = some (.int .i64 b)) := Lib.hid fun W hW => by
        obtain ⟨b1, o1, c1, hE1, hb1, q0, q1⟩ := edge_at (H.out.upd hW fun _ _ => id) HE.out
        cases hE1
        exact ⟨b1, o1, rfl, hb1, q0, q1⟩
      clear he
      have hii : (i : Int) < (E.length : Nat) := by omega
      go_wp2_with fail
      go_loopw [3, 5] (fun u s wr => ∃ (k : Nat) (O : List Int), (k = 0 ∧ s = .int .i64 0 ∨ k = 1 ∧ s = .int .i64 1 ∨ k = 2 ∧ s = .int .i64 2) ∧ OwnI w.heap.size wr u O ∧ (∀ x, x ∈ O ↔ numsP E i x ∨ (1 ≤ k ∧ x = a) ∨ (2 ≤ k ∧ x = b)) ∧ O.length ≤ 2 * i + k ∧ Upd Nowhere w wr) (fun _ s _ => 2 - (intOf s).toNat)
      case atStart => exact ⟨0, O, .inl ⟨rfl, rfl⟩, HO.out, fun x => by rw [HM.out]; simp, hol, HU.out⟩
      case round =>
        obtain ⟨k, O1, hk, ho, hO, hol1, hu⟩ := hrel
        obtain ⟨b1, o1, rfl, hb1, q0, q1⟩ := HC.out _ hu
        have HO1 := Lib.hid ho
        have HM1 := Lib.hid hO
        have HU1 := Lib.hid hu
        clear ho hO hu
        rcases hk with ⟨rfl, rfl⟩ | ⟨rfl, rfl⟩ | ⟨rfl, rfl⟩
        · by_cases hin : a ∈ O1
          · have hd : decide (a ∈ O1) = true := by simp [hin]
            have HI := Lib.hid hin
            clear hin
            go_wp2_with (go_at_call 67; refine (in14_ok HO1.out.els (by omega) a).mono ?_; rintro e w9 ⟨rfl, hw9⟩; obtain rfl : wr = w9 := hw9.symm; rw [hd])
            go_roundw
            case rel =>
              refine ⟨1, O1, .inr (.inl ⟨rfl, rfl⟩), HO1.out, fun x => ?_, by omega, HU1.out⟩
              have h0 := HM1.out x
              have hN := (HM1.out a).1 HI.out
              constructor
              · intro h
                rcases h0.1 h with h | h | h
                · exact .inl h
                · exact .inr (.inl ⟨by omega, h.2⟩)
                · omega
              · rintro (h | h | h)
                · exact h0.2 (.inl h)
                · rw [h.2]; exact HI.out
                · omega
            case measure => simp [intOf]
          · have hd : decide (a ∈ O1) = false := by simp [hin]
            clear hin
            go_wp2_with (go_at_call 67; refine (in14_ok HO1.out.els (by omega) a).mono ?_; rintro e w9 ⟨rfl, hw9⟩; obtain rfl : wr = w9 := hw9.symm; rw [hd])
            have hform := HO1.out.row.2
            have HLO := Lib.hid hol1
            obtain ⟨wq, rfl⟩ : ∃ wq, wq = wr := ⟨_, rfl⟩
            go_loopw [7, 8] (fun u s wr => ∃ j : Nat, j ≤ O1.length ∧ s = .int .i64 j ∧ OwnI wq.heap.size wr u (O1.take j) ∧ Upd Nowhere wq wr) (fun _ s _ => O1.length - (intOf s).toNat)
            case atStart => exact ⟨0, by omega, rfl, OwnR.nil _ _ _ _ _, Upd.refl _ _⟩
            case round =>
              obtain ⟨j, hj, rfl, ho, hu⟩ := hrel
              have HO2 := Lib.hid ho
              have HOS := Lib.hid (HO1.out.upd hu fun _ _ => id)
              have HUQ := Lib.hid hu
              clear ho hu
              by_cases hgo : ∃ m, O1[j]? = some m ∧ m < a
              · obtain ⟨m, hm, hmn⟩ := hgo
                have hjl : j < O1.length := (List.getElem?_eq_some_iff.1 hm).1
                obtain ⟨b2, o2, c2, hE2, hb2, p0⟩ := num_at HOS.out.els hm
                cases hE2
                have hji : (j : Int) < (O1.length : Nat) := by omega
                obtain ⟨v3, w3, hr3, ho3, hg3, hb3⟩ := rkI.app1 HO2.out HUQ.out.size 25 m #[.int .i64 m] rfl (by have := List.length_take_le j O1; omega)
                have HR3 := Lib.hid hr3
                have HO3 := Lib.hid ho3
                have HG3 := Lib.hid hg3
                have HMJ := Lib.hid hm
                clear hr3 ho3 hg3 hb3 hm
                go_wp2_with (at_builtin; refine wpList_append_run rfl _ _ _ rfl rfl rfl HR3.out ?_)
                go_roundw
                case rel => exact ⟨j + 1, by omega, by go_num, by rw [List.take_add_one, HMJ.out]; exact HO3.out, HUQ.out.grown HG3.out fun k hk h => by have := HO2.out.new k hk; omega⟩
                case measure => simp [intOf]; omega
              · rcases ownI_form HOS.out with ⟨hv, hO⟩ | ⟨g, cap, hv, hcap⟩
                · subst hO
                  subst hv
                  obtain rfl : j = 0 := by simpa using hj
                  obtain ⟨v3, w3, hr3, ho3, hg3, hb3⟩ := rkI.app1 HO2.out HUQ.out.size 25 a #[.int .i64 a] rfl (by have := List.length_take_le 0 ([] : List Int); omega)
                  rcases ownI_form ho3 with ⟨_, hno⟩ | ⟨g3, cap3, rfl, hcap3⟩
                  · simp at hno
                  have HR5 : Hid ((Builtin.append_ #[25, 25] 25 #[.slice (some ⟨g3, 0, none⟩) (List.take 0 ([] : List Int) ++ [a]).length cap3, .slice none 0 0]).run Try.prog w3 = .ok (.slice (some ⟨g3, 0, none⟩) (List.take 0 ([] : List Int) ++ [a]).length cap3) w3) := Lib.hid (append_none rkI.und (Try.sizeOf3) _ _ _ _ _ _ hcap3)
                  clear hcap3
                  have HR3 := Lib.hid hr3
                  have HO3 := Lib.hid ho3
                  have HG3 := Lib.hid hg3
                  clear hr3 ho3 hg3 hb3
                  go_wp2_with (first | (at_builtin; refine wpList_append_run rfl _ _ _ rfl rfl rfl HR3.out ?_) | (at_builtin; refine wpList_append_run rfl _ _ _ rfl rfl rfl HR5.out ?_))
                  go_roundw
                  case rel =>
                    refine ⟨1, ([] : List Int).take 0 ++ [a] ++ ([] : List Int).drop 0, .inr (.inl ⟨rfl, rfl⟩), by simpa using HO3.out.far (fun k hk => Nat.le_trans HU1.out.size (HO3.out.new k hk)), fun x => by rw [mem_put, HM1.out]; simp, ?_, HU1.out.trans (F := Nowhere) (HUQ.out.grown HG3.out fun k hk h => by have := HO2.out.new k hk; omega) fun _ _ => id⟩
                    simp only [List.length_append, List.length_take, List.length_drop, List.length_singleton]
                    omega
                  case measure => simp [intOf]
                · by_cases hjl : j < O1.length
                  · obtain ⟨m, hm⟩ : ∃ m, O1[j]? = some m := ⟨_, List.getElem?_eq_getElem hjl⟩
                    have hmn : ¬ m < a := fun h => hgo ⟨m, hm, h⟩
                    obtain ⟨b2, o2, c2, hE2, hb2, p0⟩ := num_at HOS.out.els hm
                    subst hv
                    cases hE2
                    rw [Nat.zero_add] at p0
                    have hcj : ¬ cap = j := by omega
                    have hji : (j : Int) < (O1.length : Nat) := by omega
                    clear hgo hm
                    obtain ⟨v3, w3, hr3, ho3, hg3, hb3⟩ := rkI.app1 HO2.out HUQ.out.size 25 a #[.int .i64 a] rfl (by have := List.length_take_le j O1; omega)
                    obtain ⟨v5, w5, hr5, ho5, hg5, hb5⟩ := rkI.app ho3 (Nat.le_trans HUQ.out.size hg3.size) 25 ⟨g, j, none⟩ (O1.length - j) (cap - j) (O1.drop j) (by simp) (fun i u hi => by have h9 : NumsE w3 (.slice (some ⟨g, 0, none⟩) O1.length cap) O1 := (HO1.out.upd (F := Nowhere) (HUQ.out.grown hg3 fun k hk h => by have := HO2.out.new k hk; omega) fun _ _ => id).els; have := num_cells h9 (by omega) j i u hi; simpa using this) (by have := List.length_take_le j O1; simp only [List.length_append, List.length_singleton]; omega)
                    have HR5 := Lib.hid hr5
                    have HO5 := Lib.hid ho5
                    have HG5 := Lib.hid hg5
                    clear hr5 ho5 hg5 hb5
                    have HR3 := Lib.hid hr3
                    have HO3 := Lib.hid ho3
                    have HG3 := Lib.hid hg3
                    clear hr3 ho3 hg3 hb3
                    go_wp2_with (first | (at_builtin; refine wpList_append_run rfl _ _ _ rfl rfl rfl HR3.out ?_) | (at_builtin; refine wpList_append_run rfl _ _ _ rfl rfl rfl HR5.out ?_))
                    go_roundw
                    case rel =>
                      refine ⟨1, O1.take j ++ [a] ++ O1.drop j, .inr (.inl ⟨rfl, rfl⟩), HO5.out.far (fun k hk => Nat.le_trans HU1.out.size (HO5.out.new k hk)), fun x => by rw [mem_put, HM1.out]; simp, ?_, HU1.out.trans (F := Nowhere) ((HUQ.out.grown HG3.out fun k hk h => by have := HO2.out.new k hk; omega).grown HG5.out fun k hk h => by have := HO3.out.new k hk; omega) fun _ _ => id⟩
                      simp only [List.length_append, List.length_take, List.length_drop, List.length_singleton]
                      omega
                    case measure => simp [intOf]
                  · obtain rfl : j = O1.length := by omega
                    have hji : ¬ (O1.length : Int) < (O1.length : Nat) := by omega
                    subst hv
                    clear hgo
                    by_cases hcj : cap = O1.length
                    · subst hcj
                      obtain ⟨v3, w3, hr3, ho3, hg3, hb3⟩ := rkI.app1 HO2.out HUQ.out.size 25 a #[.int .i64 a] rfl (by have := List.length_take_le O1.length O1; omega)
                      obtain ⟨v5, w5, hr5, ho5, hg5, hb5⟩ := rkI.app ho3 (Nat.le_trans HUQ.out.size hg3.size) 25 ⟨g, 0, none⟩ 0 0 [] rfl (fun i u hi => by simp at hi) (by have := List.length_take_le O1.length O1; simp only [List.length_append, List.length_singleton]; omega)
                      have HR5 := Lib.hid hr5
                      have HO5 := Lib.hid ho5
                      have HG5 := Lib.hid hg5
                      clear hr5 ho5 hg5 hb5
                      have HR3 := Lib.hid hr3
                      have HO3 := Lib.hid ho3
                      have HG3 := Lib.hid hg3
                      clear hr3 ho3 hg3 hb3
                      go_wp2_with (first | (at_builtin; refine wpList_append_run rfl _ _ _ rfl rfl rfl HR3.out ?_) | (at_builtin; refine wpList_append_run rfl _ _ _ rfl rfl rfl HR5.out ?_))
                      go_roundw
                      case rel =>
                        refine ⟨1, O1.take O1.length ++ [a] ++ O1.drop O1.length, .inr (.inl ⟨rfl, rfl⟩), by simpa using HO5.out.far (fun k hk => Nat.le_trans HU1.out.size (HO5.out.new k hk)), fun x => by rw [mem_put, HM1.out]; simp, ?_, HU1.out.trans (F := Nowhere) ((HUQ.out.grown HG3.out fun k hk h => by have := HO2.out.new k hk; omega).grown HG5.out fun k hk h => by have := HO3.out.new k hk; omega) fun _ _ => id⟩
                        simp only [List.length_append, List.length_take, List.length_drop, List.length_singleton]
                        omega
                      case measure => simp [intOf]
                    · skip
                      obtain ⟨v3, w3, hr3, ho3, hg3, hb3⟩ := rkI.app1 HO2.out HUQ.out.size 25 a #[.int .i64 a] rfl (by have := List.length_take_le O1.length O1; omega)
                      obtain ⟨v5, w5, hr5, ho5, hg5, hb5⟩ := rkI.app ho3 (Nat.le_trans HUQ.out.size hg3.size) 25 ⟨g, O1.length, none⟩ 0 (cap - O1.length) [] rfl (fun i u hi => by simp at hi) (by have := List.length_take_le O1.length O1; simp only [List.length_append, List.length_singleton]; omega)
                      have HR5 := Lib.hid hr5
                      have HO5 := Lib.hid ho5
                      have HG5 := Lib.hid hg5
                      clear hr5 ho5 hg5 hb5
                      have HR3 := Lib.hid hr3
                      have HO3 := Lib.hid ho3
                      have HG3 := Lib.hid hg3
                      clear hr3 ho3 hg3 hb3
                      go_wp2_with (first | (at_builtin; refine wpList_append_run rfl _ _ _ rfl rfl rfl HR3.out ?_) | (at_builtin; refine wpList_append_run rfl _ _ _ rfl rfl rfl HR5.out ?_))
                      go_roundw
                      case rel =>
                        refine ⟨1, O1.take O1.length ++ [a] ++ O1.drop O1.length, .inr (.inl ⟨rfl, rfl⟩), by simpa using HO5.out.far (fun k hk => Nat.le_trans HU1.out.size (HO5.out.new k hk)), fun x => by rw [mem_put, HM1.out]; simp, ?_, HU1.out.trans (F := Nowhere) ((HUQ.out.grown HG3.out fun k hk h => by have := HO2.out.new k hk; omega).grown HG5.out fun k hk h => by have := HO3.out.new k hk; omega) fun _ _ => id⟩
                        simp only [List.length_append, List.length_take, List.length_drop, List.length_singleton]
                        omega
                      case measure => simp [intOf]
        · by_cases hin : b ∈ O1
          · have hd : decide (b ∈ O1) = true := by simp [hin]
            have HI := Lib.hid hin
            clear hin
            go_wp2_with (go_at_call 67; refine (in14_ok HO1.out.els (by omega) b).mono ?_; rintro e w9 ⟨rfl, hw9⟩; obtain rfl : wr = w9 := hw9.symm; rw [hd])
            go_roundw
            case rel =>
              refine ⟨2, O1, .inr (.inr ⟨rfl, rfl⟩), HO1.out, fun x => ?_, by omega, HU1.out⟩
              have h0 := HM1.out x
              have hN := (HM1.out b).1 HI.out
              constructor
              · intro h
                rcases h0.1 h with h | h | h
                · exact .inl h
                · exact .inr (.inl ⟨by omega, h.2⟩)
                · omega
              · rintro (h | h | h)
                · exact h0.2 (.inl h)
                · exact h0.2 (.inr (.inl ⟨by omega, h.2⟩))
                · rw [h.2]; exact HI.out
            case measure => simp [intOf]
          · have hd : decide (b ∈ O1) = false := by simp [hin]
            clear hin
            go_wp2_with (go_at_call 67; refine (in14_ok HO1.out.els (by omega) b).mono ?_; rintro e w9 ⟨rfl, hw9⟩; obtain rfl : wr = w9 := hw9.symm; rw [hd])
            have hform := HO1.out.row.2
            have HLO := Lib.hid hol1
            obtain ⟨wq, rfl⟩ : ∃ wq, wq = wr := ⟨_, rfl⟩
            go_loopw [7, 8] (fun u s wr => ∃ j : Nat, j ≤ O1.length ∧ s = .int .i64 j ∧ OwnI wq.heap.size wr u (O1.take j) ∧ Upd Nowhere wq wr) (fun _ s _ => O1.length - (intOf s).toNat)
            case atStart => exact ⟨0, by omega, rfl, OwnR.nil _ _ _ _ _, Upd.refl _ _⟩
            case round =>
              obtain ⟨j, hj, rfl, ho, hu⟩ := hrel
              have HO2 := Lib.hid ho
              have HOS := Lib.hid (HO1.out.upd hu fun _ _ => id)
              have HUQ := Lib.hid hu
              clear ho hu
              by_cases hgo : ∃ m, O1[j]? = some m ∧ m < b
              · obtain ⟨m, hm, hmn⟩ := hgo
                have hjl : j < O1.length := (List.getElem?_eq_some_iff.1 hm).1
                obtain ⟨b2, o2, c2, hE2, hb2, p0⟩ := num_at HOS.out.els hm
                cases hE2
                have hji : (j : Int) < (O1.length : Nat) := by omega
                obtain ⟨v3, w3, hr3, ho3, hg3, hb3⟩ := rkI.app1 HO2.out HUQ.out.size 25 m #[.int .i64 m] rfl (by have := List.length_take_le j O1; omega)
                have HR3 := Lib.hid hr3
                have HO3 := Lib.hid ho3
                have HG3 := Lib.hid hg3
                have HMJ := Lib.hid hm
                clear hr3 ho3 hg3 hb3 hm
                go_wp2_with (at_builtin; refine wpList_append_run rfl _ _ _ rfl rfl rfl HR3.out ?_)
                go_roundw
                case rel => exact ⟨j + 1, by omega, by go_num, by rw [List.take_add_one, HMJ.out]; exact HO3.out, HUQ.out.grown HG3.out fun k hk h => by have := HO2.out.new k hk; omega⟩
                case measure => simp [intOf]; omega
              · rcases ownI_form HOS.out with ⟨hv, hO⟩ | ⟨g, cap, hv, hcap⟩
                · subst hO
                  subst hv
                  obtain rfl : j = 0 := by simpa using hj
                  obtain ⟨v3, w3, hr3, ho3, hg3, hb3⟩ := rkI.app1 HO2.out HUQ.out.size 25 b #[.int .i64 b] rfl (by have := List.length_take_le 0 ([] : List Int); omega)
                  rcases ownI_form ho3 with ⟨_, hno⟩ | ⟨g3, cap3, rfl, hcap3⟩
                  · simp at hno
                  have HR5 : Hid ((Builtin.append_ #[25, 25] 25 #[.slice (some ⟨g3, 0, none⟩) (List.take 0 ([] : List Int) ++ [b]).length cap3, .slice none 0 0]).run Try.prog w3 = .ok (.slice (some ⟨g3, 0, none⟩) (List.take 0 ([] : List Int) ++ [b]).length cap3) w3) := Lib.hid (append_none rkI.und (Try.sizeOf3) _ _ _ _ _ _ hcap3)
                  clear hcap3
                  have HR3 := Lib.hid hr3
                  have HO3 := Lib.hid ho3
                  have HG3 := Lib.hid hg3
                  clear hr3 ho3 hg3 hb3
                  go_wp2_with (first | (at_builtin; refine wpList_append_run rfl _ _ _ rfl rfl rfl HR3.out ?_) | (at_builtin; refine wpList_append_run rfl _ _ _ rfl rfl rfl HR5.out ?_))
                  go_roundw
                  case rel =>
                    refine ⟨2, ([] : List Int).take 0 ++ [b] ++ ([] : List Int).drop 0, .inr (.inr ⟨rfl, rfl⟩), by simpa using HO3.out.far (fun k hk => Nat.le_trans HU1.out.size (HO3.out.new k hk)), fun x => by rw [mem_put, HM1.out]; simp [or_assoc], ?_, HU1.out.trans (F := Nowhere) (HUQ.out.grown HG3.out fun k hk h => by have := HO2.out.new k hk; omega) fun _ _ => id⟩
                    simp only [List.length_append, List.length_take, List.length_drop, List.length_singleton]
                    omega
                  case measure => simp [intOf]
                · by_cases hjl : j < O1.length
                  · obtain ⟨m, hm⟩ : ∃ m, O1[j]? = some m := ⟨_, List.getElem?_eq_getElem hjl⟩
                    have hmn : ¬ m < b := fun h => hgo ⟨m, hm, h⟩
                    obtain ⟨b2, o2, c2, hE2, hb2, p0⟩ := num_at HOS.out.els hm
                    subst hv
                    cases hE2
                    rw [Nat.zero_add] at p0
                    have hcj : ¬ cap = j := by omega
                    have hji : (j : Int) < (O1.length : Nat) := by omega
                    clear hgo hm
                    obtain ⟨v3, w3, hr3, ho3, hg3, hb3⟩ := rkI.app1 HO2.out HUQ.out.size 25 b #[.int .i64 b] rfl (by have := List.length_take_le j O1; omega)
                    obtain ⟨v5, w5, hr5, ho5, hg5, hb5⟩ := rkI.app ho3 (Nat.le_trans HUQ.out.size hg3.size) 25 ⟨g, j, none⟩ (O1.length - j) (cap - j) (O1.drop j) (by simp) (fun i u hi => by have h9 : NumsE w3 (.slice (some ⟨g, 0, none⟩) O1.length cap) O1 := (HO1.out.upd (F := Nowhere) (HUQ.out.grown hg3 fun k hk h => by have := HO2.out.new k hk; omega) fun _ _ => id).els; have := num_cells h9 (by omega) j i u hi; simpa using this) (by have := List.length_take_le j O1; simp only [List.length_append, List.length_singleton]; omega)
                    have HR5 := Lib.hid hr5
                    have HO5 := Lib.hid ho5
                    have HG5 := Lib.hid hg5
                    clear hr5 ho5 hg5 hb5
                    have HR3 := Lib.hid hr3
                    have HO3 := Lib.hid ho3
                    have HG3 := Lib.hid hg3
                    clear hr3 ho3 hg3 hb3
                    go_wp2_with (first | (at_builtin; refine wpList_append_run rfl _ _ _ rfl rfl rfl HR3.out ?_) | (at_builtin; refine wpList_append_run rfl _ _ _ rfl rfl rfl HR5.out ?_))
                    go_roundw
                    case rel =>
                      refine ⟨2, O1.take j ++ [b] ++ O1.drop j, .inr (.inr ⟨rfl, rfl⟩), HO5.out.far (fun k hk => Nat.le_trans HU1.out.size (HO5.out.new k hk)), fun x => by rw [mem_put, HM1.out]; simp [or_assoc], ?_, HU1.out.trans (F := Nowhere) ((HUQ.out.grown HG3.out fun k hk h => by have := HO2.out.new k hk; omega).grown HG5.out fun k hk h => by have := HO3.out.new k hk; omega) fun _ _ => id⟩
                      simp only [List.length_append, List.length_take, List.length_drop, List.length_singleton]
                      omega
                    case measure => simp [intOf]
                  · obtain rfl : j = O1.length := by omega
                    have hji : ¬ (O1.length : Int) < (O1.length : Nat) := by omega
                    subst hv
                    clear hgo
                    by_cases hcj : cap = O1.length
                    · subst hcj
                      obtain ⟨v3, w3, hr3, ho3, hg3, hb3⟩ := rkI.app1 HO2.out HUQ.out.size 25 b #[.int .i64 b] rfl (by have := List.length_take_le O1.length O1; omega)
                      obtain ⟨v5, w5, hr5, ho5, hg5, hb5⟩ := rkI.app ho3 (Nat.le_trans HUQ.out.size hg3.size) 25 ⟨g, 0, none⟩ 0 0 [] rfl (fun i u hi => by simp at hi) (by have := List.length_take_le O1.length O1; simp only [List.length_append, List.length_singleton]; omega)
                      have HR5 := Lib.hid hr5
                      have HO5 := Lib.hid ho5
                      have HG5 := Lib.hid hg5
                      clear hr5 ho5 hg5 hb5
                      have HR3 := Lib.hid hr3
                      have HO3 := Lib.hid ho3
                      have HG3 := Lib.hid hg3
                      clear hr3 ho3 hg3 hb3
                      go_wp2_with (first | (at_builtin; refine wpList_append_run rfl _ _ _ rfl rfl rfl HR3.out ?_) | (at_builtin; refine wpList_append_run rfl _ _ _ rfl rfl rfl HR5.out ?_))
                      go_roundw
                      case rel =>
                        refine ⟨2, O1.take O1.length ++ [b] ++ O1.drop O1.length, .inr (.inr ⟨rfl, rfl⟩), by simpa using HO5.out.far (fun k hk => Nat.le_trans HU1.out.size (HO5.out.new k hk)), fun x => by rw [mem_put, HM1.out]; simp [or_assoc], ?_, HU1.out.trans (F := Nowhere) ((HUQ.out.grown HG3.out fun k hk h => by have := HO2.out.new k hk; omega).grown HG5.out fun k hk h => by have := HO3.out.new k hk; omega) fun _ _ => id⟩
                        simp only [List.length_append, List.length_take, List.length_drop, List.length_singleton]
                        omega
                      case measure => simp [intOf]
                    · skip
                      obtain ⟨v3, w3, hr3, ho3, hg3, hb3⟩ := rkI.app1 HO2.out HUQ.out.size 25 b #[.int .i64 b] rfl (by have := List.length_take_le O1.length O1; omega)
                      obtain ⟨v5, w5, hr5, ho5, hg5, hb5⟩ := rkI.app ho3 (Nat.le_trans HUQ.out.size hg3.size) 25 ⟨g, O1.length, none⟩ 0 (cap - O1.length) [] rfl (fun i u hi => by simp at hi) (by have := List.length_take_le O1.length O1; simp only [List.length_append, List.length_singleton]; omega)
                      have HR5 := Lib.hid hr5
                      have HO5 := Lib.hid ho5
                      have HG5 := Lib.hid hg5
                      clear hr5 ho5 hg5 hb5
                      have HR3 := Lib.hid hr3
                      have HO3 := Lib.hid ho3
                      have HG3 := Lib.hid hg3
                      clear hr3 ho3 hg3 hb3
                      go_wp2_with (first | (at_builtin; refine wpList_append_run rfl _ _ _ rfl rfl rfl HR3.out ?_) | (at_builtin; refine wpList_append_run rfl _ _ _ rfl rfl rfl HR5.out ?_))
                      go_roundw
                      case rel =>
                        refine ⟨2, O1.take O1.length ++ [b] ++ O1.drop O1.length, .inr (.inr ⟨rfl, rfl⟩), by simpa using HO5.out.far (fun k hk => Nat.le_trans HU1.out.size (HO5.out.new k hk)), fun x => by rw [mem_put, HM1.out]; simp [or_assoc], ?_, HU1.out.trans (F := Nowhere) ((HUQ.out.grown HG3.out fun k hk h => by have := HO2.out.new k hk; omega).grown HG5.out fun k hk h => by have := HO3.out.new k hk; omega) fun _ _ => id⟩
                        simp only [List.length_append, List.length_take, List.length_drop, List.length_singleton]
                        omega
                      case measure => simp [intOf]
        · go_wp2_with fail
          go_roundw
          case rel =>
            refine ⟨i + 1, O1, by omega, by go_num, HO1.out, fun x => ?_, by omega, HU1.out⟩
            rw [HM1.out, numsP_succ HE.out]
            simp
          case measure => simp [intOf]; omega
    · have hii : ¬ (i : Int) < (E.length : Nat) := by omega
      obtain rfl : i = E.length := by omega
      go_wp2_with fail
      go_ret
      exact ⟨_, rfl, O, HO.out, HM.out, hol, HU.out⟩

set_option maxHeartbeats 2000000 in
set_option maxRecDepth 100000 in
/-- Is there a ring? -/
theorem victim14_ok {w : World} {v : Value} {E : Ed} (h : EdE w v E) (hl : E.length ≤ 10000) : Calls Try.prog 25 #[v] w fun r w' => (∃ n b, r = .returned (.tuple #[.int .i64 n, .bool b]) ∧ (b = true ↔ Cyc E)) ∧ Upd Nowhere w w' := by
  have H := Lib.hid h
  clear h
  go_enter Try.func25, Try.ntmps25
  go_wp2_with fail
  refine (numbers_ok H.out hl).mono ?_
  rintro r w1 ⟨u, rfl, O, ho, hO, hol, hu⟩
  have HO := Lib.hid ho
  have HM := Lib.hid hO
  have HU := Lib.hid hu
  obtain ⟨A, c, rfl, hcap⟩ := ho.els.val
  clear ho hO hu
  have hend : Hid ((∀ (j : Nat) (x : Int), O[j]? = some x → ¬ Rch E x x) → ¬ Cyc E) := Lib.hid fun hno ⟨n, hn⟩ => by
    obtain ⟨d, hd, _⟩ := hn.first
    obtain ⟨j, hj⟩ := List.mem_iff_getElem?.1 ((HM.out n).2 (numsP_all.2 ⟨n, d, hd, .inl rfl⟩))
    exact hno j n hj hn
  rcases hlen : O.length with _ | q
  · rw [hlen] at hcap hol
    go_wp2_with fail
    go_loopw [5] (fun s wr => s = .int .i64 (-1) ∧ wr = w1) (fun _ _ => 0)
    case atStart => exact ⟨rfl, rfl⟩
    case round =>
      obtain ⟨rfl, rfl⟩ := hrel
      go_wp2_with fail
      go_ret2
      refine ⟨⟨_, _, rfl, ?_⟩, HU.out⟩
      simp only [Bool.false_eq_true, false_iff]
      exact hend.out fun j x hj => by have := (List.getElem?_eq_some_iff.1 hj).1; omega
  · have HOS : Hid (∀ W, Upd Nowhere w1 W → NumsE W (.slice A O.length c) O) := Lib.hid fun W hW => (HO.out.upd hW fun _ _ => id).els
    have hsub : (O.length : Int) - 1 = (q : Nat) := by omega
    have HLEN := Lib.hid hlen
    clear hlen
    go_wp2_with fail
    go_loopw [5] (fun s wr => ((∃ k : Nat, k ≤ q ∧ s = .int .i64 k ∧ ∀ (j : Nat) (x : Int), k < j → O[j]? = some x → ¬ Rch E x x) ∨ (s = .int .i64 (-1) ∧ ∀ (j : Nat) (x : Int), O[j]? = some x → ¬ Rch E x x)) ∧ Upd Nowhere w1 wr) (fun s _ => (intOf s + 1).toNat)
    case atStart => exact ⟨.inl ⟨q, Nat.le_refl _, by go_num, fun j x hj hx => by have := (List.getElem?_eq_some_iff.1 hx).1; have := HLEN.out; omega⟩, Upd.refl _ _⟩
    case round =>
      obtain ⟨⟨k, hk, rfl, hno⟩ | ⟨rfl, hno⟩, hu⟩ := hrel
      · obtain ⟨x, hx⟩ : ∃ x, O[k]? = some x := ⟨_, List.getElem?_eq_getElem (by have := HLEN.out; omega)⟩
        obtain ⟨b, off, c', he, hb, q0⟩ := num_at (HOS.out _ hu) hx
        simp only [Value.slice.injEq] at he
        obtain ⟨rfl, _, rfl⟩ := he
        have HX := Lib.hid hx
        have HNO := Lib.hid hno
        have HU1 := Lib.hid hu
        clear hx hno hu
        have hkq : (k : Int) < (O.length : Nat) := by have := HLEN.out; omega
        go_wp2_with fail
        refine (ring_ok (H.out.upd (HU.out.trans (F := Nowhere) HU1.out fun _ _ => id) fun _ _ => id) hl x).mono ?_
        rintro r w2 ⟨⟨bb, rfl, hbb⟩, hu2⟩
        have HU2 := Lib.hid (HU1.out.trans (F := Nowhere) hu2 fun _ _ => id)
        have q1 := (hu2.cell hb id).trans q0
        clear hu2 q0
        cases bb with
        | true =>
          have HB := Lib.hid (hbb.1 rfl)
          clear hbb
          go_wp2_with fail
          go_ret2
          refine ⟨⟨_, _, rfl, ?_⟩, HU.out.trans (F := Nowhere) HU2.out fun _ _ => id⟩
          simp only [true_iff]
          exact ⟨x, HB.out⟩
        | false =>
          have HB : Hid (¬ Rch E x x) := Lib.hid fun h => by have := hbb.2 h; cases this
          clear hbb
          have HN2 : Hid (∀ (j : Nat) (y : Int), k ≤ j → O[j]? = some y → ¬ Rch E y y) := Lib.hid fun j y hj hy => by
            rcases (by omega : k < j ∨ k = j) with h | rfl
            · exact HNO.out j y h hy
            · rw [HX.out] at hy; cases hy; exact HB.out
          cases k with
          | zero =>
            go_wp2_with fail
            go_roundw
            case rel => exact ⟨.inr ⟨rfl, fun j y hy => HN2.out j y (Nat.zero_le _) hy⟩, HU2.out⟩
            case measure => simp [intOf]
          | succ k =>
            go_wp2_with fail
            go_roundw
            case rel => exact ⟨.inl ⟨k, by omega, by go_num, fun j y hj hy => HN2.out j y (by omega) hy⟩, HU2.out⟩
            case measure => simp [intOf]; omega
      · have HNO := Lib.hid hno
        have HU1 := Lib.hid hu
        clear hno hu
        go_wp2_with fail
        go_ret2
        refine ⟨⟨_, _, rfl, ?_⟩, HU.out.trans (F := Nowhere) HU1.out fun _ _ => id⟩
        simp only [Bool.false_eq_true, false_iff]
        exact hend.out HNO.out
end Go.Proofs.Ytddknmgajacofaa
