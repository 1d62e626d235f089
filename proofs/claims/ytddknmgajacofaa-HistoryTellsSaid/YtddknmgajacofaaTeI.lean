/-
  The document's order.
-/
import Derived.Test.YtddknmgajacofaaTeD
import Derived.Test.YtddknmgajacofaaTeH
namespace Go.Proofs.Ytddknmgajacofaa
open Go Go.RowKit

/-- May it come next? -/
def CandT (E : Ed) (O : List Int) (x : Int) : Prop := x ∉ O ∧ ∀ y, (x, y) ∈ E → y ∈ O
/-- The best of the first i. -/
structure BestN (E : Ed) (com O : List Int) (i : Nat) (b : Int) (f : Bool) : Prop where
  none : f = false → ∀ j x, j < i → com[j]? = some x → ¬ CandT E O x
  some : f = true → b ∈ com ∧ CandT E O b ∧ ∀ j x, j < i → com[j]? = some x → CandT E O x → b ≤ x
section
variable {E : Ed} {com O : List Int} {i : Nat} {b x : Int} {f : Bool}
theorem BestN.start (E : Ed) (com O : List Int) : BestN E com O 0 0 false := ⟨fun _ j x h => by omega, fun h => by cases h⟩
theorem BestN.skip (h : BestN E com O i b f) (hx : com[i]? = Option.some x) (hn : ¬ CandT E O x ∨ f = true ∧ b ≤ x) : BestN E com O (i + 1) b f := by
  refine ⟨fun hf j y hj hy => ?_, fun hf => ⟨(h.some hf).1, (h.some hf).2.1, fun j y hj hy hc => ?_⟩⟩
  · rcases (by omega : j < i ∨ j = i) with h1 | rfl
    · exact h.none hf j y h1 hy
    · rw [hx] at hy
      cases hy
      rcases hn with h2 | h2
      · exact h2
      · rw [hf] at h2; cases h2.1
  · rcases (by omega : j < i ∨ j = i) with h1 | rfl
    · exact (h.some hf).2.2 j y h1 hy hc
    · rw [hx] at hy
      cases hy
      rcases hn with h2 | h2
      · exact absurd hc h2
      · exact h2.2
theorem BestN.take (h : BestN E com O i b f) (hx : com[i]? = Option.some x) (hc : CandT E O x) (hn : f = true → x ≤ b) : BestN E com O (i + 1) x true := by
  refine ⟨fun hf => (by cases hf), fun _ => ⟨List.mem_of_getElem? hx, hc, fun j y hj hy hcy => ?_⟩⟩
  rcases (by omega : j < i ∨ j = i) with h1 | rfl
  · cases f with
    | false => exact absurd hcy (h.none rfl j y h1 hy)
    | true => exact Int.le_trans (hn rfl) ((h.some rfl).2.2 j y h1 hy hcy)
  · rw [hx] at hy
    cases hy
    exact Int.le_refl _
theorem BestN.done (h : BestN E com O i b f) (hi : com.length ≤ i) (hg : ∃ x ∈ com, x ∉ O ∧ ∀ y, (x, y) ∈ E → y ∈ O) : Best E com O b := by
  have hall : ∀ z ∈ com, ∃ j, j < i ∧ com[j]? = Option.some z := fun z hz => by
    obtain ⟨j, hj⟩ := List.mem_iff_getElem?.1 hz
    exact ⟨j, by have := (List.getElem?_eq_some_iff.1 hj).1; omega, hj⟩
  cases f with
  | false =>
    obtain ⟨x, hx, h1, h2⟩ := hg
    obtain ⟨j, hj, hjx⟩ := hall x hx
    exact absurd ⟨h1, h2⟩ (h.none rfl j x hj hjx)
  | true =>
    obtain ⟨h1, h2, h3⟩ := h.some rfl
    exact ⟨h1, h2.1, h2.2, fun z hz hzo hzr => by
      obtain ⟨j, hj, hjz⟩ := hall z hz
      exact h3 j z hj hjz ⟨hzo, hzr⟩⟩
end
/-- So far as the first k pairs tell, all for whom x waits are out. -/
def readyN (E : Ed) (O : List Int) (x : Int) : Nat → Bool
  | 0 => true
  | k + 1 => readyN E O x k && match E[k]? with
    | some p => decide (p.1 ≠ x) || decide (p.2 ∈ O)
    | none => true
theorem readyN_iff (E : Ed) (O : List Int) (x : Int) : ∀ k, readyN E O x k = true ↔ ∀ j p, j < k → E[j]? = some p → p.1 ≠ x ∨ p.2 ∈ O := by
  intro k
  induction k with
  | zero => simp [readyN]
  | succ k ih =>
    simp only [readyN, Bool.and_eq_true, ih]
    constructor
    · rintro ⟨h1, h2⟩ j p hj hp
      rcases (by omega : j < k ∨ j = k) with h | rfl
      · exact h1 j p h hp
      · rw [hp] at h2
        simpa using h2
    · intro h
      refine ⟨fun j p hj hp => h j p (by omega) hp, ?_⟩
      cases hp : E[k]? with
      | none => rfl
      | some p => simpa using h k p (by omega) hp
theorem readyN_all {E : Ed} {O : List Int} {x : Int} : readyN E O x E.length = true ↔ ∀ y, (x, y) ∈ E → y ∈ O := by
  rw [readyN_iff]
  constructor
  · intro h y hy
    obtain ⟨j, hj⟩ := List.mem_iff_getElem?.1 hy
    exact (h j _ (List.getElem?_eq_some_iff.1 hj).1 hj).resolve_left fun h => h rfl
  · intro h j p _ hp
    by_cases e : p.1 = x
    · subst e; exact .inr (h p.2 (List.mem_of_getElem? hp))
    · exact .inl e
theorem readyN_succ {E : Ed} {O : List Int} {x : Int} {k : Nat} {p : Int × Int} (h : E[k]? = some p) : readyN E O x (k + 1) = (readyN E O x k && (decide (p.1 ≠ x) || decide (p.2 ∈ O))) := by simp [readyN, h]

theorem pair_com {l : List EvD} {i k : Nat} {p : Int × Int} (h : PairAt l i k p) : p.1 ∈ ordN l l.length ∧ p.2 ∈ ordN l l.length := by
  obtain ⟨a, b, h1, h2, h3, h4, _, _, _, rfl⟩ := h
  have key : ∀ (e : EvD) (j : Nat), wkOf l e j = true → e.tx ∈ ordN l l.length := fun e j hw => by
    rw [wkOf_at] at hw
    rw [ordN_iff]
    intro hn
    rw [hn] at hw
    simp at hw
  exact ⟨key b k h4, key a i h3⟩
theorem AheadIs.com {l : List EvD} {E : Ed} (h : AheadIs l E) (x y : Int) (hp : (x, y) ∈ E) : y ∈ ordN l l.length := by
  obtain ⟨i, k, _, h1⟩ := (h.mem _).1 hp
  exact (pair_com h1).2
theorem AheadIs.len {l : List EvD} {E : Ed} (h : AheadIs l E) (hl : l.length ≤ 60) : E.length ≤ 3600 := pairs_len h.sorted (fun p hp => by
  obtain ⟨i, k, _, h1⟩ := (h.mem p).1 hp
  exact ⟨i, k, h1⟩) hl
/-- What is answered, of the order. -/
structure SerOut (w : World) (l : List EvD) (r : Ending) (w' : World) : Prop where
  out : (∃ E, AheadIs l E ∧ Cyc E ∧ r = .returned (.tuple #[.slice none 0 0, .bool false])) ∨
    ∃ E v' O, AheadIs l E ∧ ¬ Cyc E ∧ r = .returned (.tuple #[v', .bool true]) ∧ NumsE w' v' O ∧ Ser E (ordN l l.length) O ∧ O.length = (ordN l l.length).length
  upd : Upd Nowhere w w'

set_option maxHeartbeats 4000000 in
set_option maxRecDepth 100000 in
theorem rserial_ok {w : World} {v : Value} {l : List EvD} (h : EvsE w v l) (hl : l.length ≤ 60) : Calls Try.prog 9 #[v] w (SerOut w l) := by
  have H := Lib.hid h
  have hlen := ordN_len l l.length
  have HND := Lib.hid (ordN_nodup l l.length)
  clear h
  go_enter Try.func9, Try.ntmps9
  go_wp2_with fail
  refine (rahead_ok H.out hl).mono ?_
  rintro r w1 ⟨v1, rfl, E, hoE, hE, hu1⟩
  have HE := Lib.hid hE
  have HOE := Lib.hid hoE
  have HU1 := Lib.hid hu1
  have hle := hE.len hl
  clear hE hoE hu1
  go_wp2_with fail
  refine (victim14_ok HOE.out.els (by omega)).mono ?_
  rintro r w2 ⟨⟨n, b, rfl, hb⟩, hu2⟩
  have HU2 := Lib.hid (HU1.out.trans (F := Nowhere) hu2 fun _ _ => id)
  have HOE2 := Lib.hid (HOE.out.upd hu2 fun _ _ => id)
  clear hu2
  cases b with
  | true =>
    have HB := Lib.hid (hb.1 rfl)
    clear hb
    go_wp2_with fail
    go_ret2
    exact ⟨.inl ⟨E, HE.out, HB.out, rfl⟩, HU2.out⟩
  | false =>
    have HB : Hid (¬ Cyc E) := Lib.hid fun h => by have := hb.2 h; cases this
    clear hb
    go_wp2_with fail
    refine (rcommitted_ok (H.out.upd HU2.out fun _ _ => id) hl).mono ?_
    rintro r w3 ⟨v3, rfl, ho3, hu3⟩
    have HU3 := Lib.hid (HU2.out.trans (F := Nowhere) hu3 fun _ _ => id)
    have HOE3 := Lib.hid (HOE2.out.upd hu3 fun _ _ => id)
    have HC := Lib.hid ho3
    have HG : Hid (∀ O, Ser E (ordN l l.length) O → O.length < (ordN l l.length).length → ∃ x ∈ ordN l l.length, x ∉ O ∧ ∀ y, (x, y) ∈ E → y ∈ O) := Lib.hid fun O hO hlt => ser_goes HB.out HE.out.com HND.out hlt
    obtain ⟨A1, c1, rfl, hc1⟩ := HOE3.out.els.val
    have HHE : Hid (∀ x y, (x, y) ∈ E → y ∈ ordN l l.length) := Lib.hid HE.out.com
    obtain ⟨com, hcom⟩ : ∃ com, ordN l l.length = com := ⟨_, rfl⟩
    rw [hcom] at hlen HC HG HHE
    obtain ⟨A3, c3, rfl, hc3⟩ := HC.out.els.val
    have HCOM := Lib.hid hcom
    clear hu3 ho3 hcom
    go_wp2_with fail
    go_loopw [8] (fun u wr => ∃ O : List Int, O.length ≤ com.length ∧ OwnI w3.heap.size wr u O ∧ Ser E com O ∧ Upd Nowhere w3 wr) (fun u _ => com.length - lenV u)
    case atStart => exact ⟨[], by simp, OwnR.nil _ _ _ _ _, .nil, Upd.refl _ _⟩
    case round =>
      obtain ⟨O, hol, ho, hs, hu⟩ := hrel
      have HO := Lib.hid ho
      have HS := Lib.hid hs
      have HU := Lib.hid hu
      have HOL := Lib.hid (ownI_len ho)
      obtain ⟨A8, c8, rfl, hc8⟩ := ho.els.val
      clear ho hs hu
      by_cases hlt : O.length < com.length
      · have hli : (O.length : Int) < (com.length : Nat) := by omega
        obtain ⟨wo, rfl⟩ : ∃ wo, wo = wr := ⟨_, rfl⟩
        go_wp2_with fail
        go_loopw [9, 10, 11] (fun b f s wr => ∃ (bv : Int) (fv : Bool) (i : Nat), i ≤ com.length ∧ b = .int .i64 bv ∧ f = .bool fv ∧ s = .int .i64 i ∧ BestN E com O i bv fv ∧ Upd Nowhere wo wr) (fun _ _ s _ => com.length - (intOf s).toNat)
        case atStart => exact ⟨0, false, 0, by omega, rfl, rfl, rfl, BestN.start _ _ _, Upd.refl _ _⟩
        case round =>
          obtain ⟨bv, fv, i, hi, rfl, rfl, rfl, hbn, hu⟩ := hrel
          have HBN := Lib.hid hbn
          have HUI := Lib.hid hu
          have HIN : Hid (∀ W, Upd Nowhere wr W → NumsE W (.slice A8 O.length c8) O) := Lib.hid fun W hW => (HO.out.upd (hu.trans (F := Nowhere) hW fun _ _ => id) fun _ _ => id).els
          clear hbn hu
          by_cases hic : i < com.length
          · obtain ⟨x, hx⟩ : ∃ x, com[i]? = some x := ⟨_, List.getElem?_eq_getElem hic⟩
            have hii : (i : Int) < (com.length : Nat) := by omega
            obtain ⟨b1, o1, c1', hE1, hb1, q0⟩ := num_at (HC.out.upd (HU.out.trans (F := Nowhere) HUI.out fun _ _ => id) fun _ _ => id).els hx
            cases hE1
            have HX := Lib.hid hx
            clear hx
            go_wp2_with fail
            refine (hin_ok (HIN.out _ (Upd.refl _ _)) (by omega) x).mono ?_
            rintro r w9 ⟨rfl, hw9⟩
            obtain rfl : wr = w9 := hw9.symm
            cases d1 : decide (x ∈ O) with
            | true =>
              have HNC : Hid (¬ CandT E O x) := Lib.hid fun h => h.1 (of_decide_eq_true d1)
              go_wp2_with fail
              go_roundw
              case rel => exact ⟨bv, fv, i + 1, by omega, rfl, rfl, by go_num, HBN.out.skip HX.out (.inl HNC.out), HUI.out⟩
              case measure => simp [intOf]; omega
            | false =>
              have HD1 := Lib.hid d1
              clear d1
              cases fv with
              | false =>
                go_wp2_with fail
                obtain ⟨wi, rfl⟩ : ∃ wi, wi = wr := ⟨_, rfl⟩
                go_loopw [12, 13] (fun r s wr => ∃ (rb : Bool) (k : Nat), k ≤ E.length ∧ r = .bool rb ∧ s = .int .i64 k ∧ rb = readyN E O x k ∧ Upd Nowhere wi wr) (fun _ s _ => E.length - (intOf s).toNat)
                case atStart => exact ⟨true, 0, by omega, rfl, rfl, rfl, Upd.refl _ _⟩
                case round =>
                  obtain ⟨rb, k, hk, rfl, rfl, hrb, hu⟩ := hrel
                  have HRB := Lib.hid hrb
                  have HUK := Lib.hid (HUI.out.trans (F := Nowhere) hu fun _ _ => id)
                  have HUW := Lib.hid hu
                  clear hrb hu
                  by_cases hke : k < E.length
                  · obtain ⟨⟨e1, e2⟩, he⟩ : ∃ e, E[k]? = some e := ⟨_, List.getElem?_eq_getElem hke⟩
                    have hki : (k : Int) < (E.length : Nat) := by omega
                    obtain ⟨b2, o2, c2, hE2, hb2, p0, p1⟩ := edge_at (HOE3.out.upd (HU.out.trans (F := Nowhere) HUK.out fun _ _ => id) fun _ _ => id).els he
                    cases hE2
                    obtain ⟨b1, o1, c1', hE1, hb1, q0⟩ := num_at (HC.out.upd (HU.out.trans (F := Nowhere) HUK.out fun _ _ => id) fun _ _ => id).els HX.out
                    cases hE1
                    have HIN : Hid (∀ W, Upd Nowhere wr W → NumsE W (.slice A8 O.length c8) O) := Lib.hid fun W hW => (HO.out.upd (HUK.out.trans (F := Nowhere) hW fun _ _ => id) fun _ _ => id).els
                    have HSU := Lib.hid (readyN_succ (O := O) (x := x) he)
                    have HLO := Lib.hid (show O.length ≤ 1000 by omega)
                    clear he
                    go_upto_region 17 with (fail)
                    cases rb with
                    | false =>
                      go_quiet (fail)
                      go_wp2_with fail
                      go_roundw
                      case rel => exact ⟨false, k + 1, by omega, rfl, by go_num, by rw [HSU.out, ← HRB.out]; rfl, HUW.out.drewN _⟩
                      case measure => simp [intOf]; omega
                    | true =>
                      by_cases hex : e1 = x
                      · subst hex
                        have hne : (e1 != e1) = false := by simp
                        · skip
                          go_quiet ((go_at_call 26; exact Calls.quiet_of_same (hin_ok (HIN.out _ ((Upd.refl Nowhere wr).drewN _)) HLO.out e2)))
                          go_wp2_with fail
                          go_roundw
                          case rel => exact ⟨decide (e2 ∈ O), k + 1, by omega, rfl, by go_num, by rw [HSU.out, ← HRB.out]; simp, HUW.out.drewN _⟩
                          case measure => simp [intOf]; omega
                      · have hne : (e1 != x) = true := by simpa using hex
                        go_quiet (fail)
                        go_wp2_with fail
                        go_roundw
                        case rel => exact ⟨true, k + 1, by omega, rfl, by go_num, by rw [HSU.out, ← HRB.out]; simp [hex], HUW.out.drewN _⟩
                        case measure => simp [intOf]; omega
                  · have hki : ¬ (k : Int) < (E.length : Nat) := by omega
                    obtain rfl : k = E.length := by omega
                    cases rb with
                    | true =>
                      have HCA : Hid (CandT E O x) := Lib.hid ⟨of_decide_eq_false HD1.out, readyN_all.1 HRB.out.symm⟩
                      obtain ⟨b1, o1, c1', hE1, hb1, q0⟩ := num_at (HC.out.upd (HU.out.trans (F := Nowhere) HUK.out fun _ _ => id) fun _ _ => id).els HX.out
                      cases hE1
                      go_wp2_with fail
                      go_roundw
                      case rel => exact ⟨x, true, i + 1, by omega, rfl, rfl, by go_num, HBN.out.take HX.out HCA.out (fun h => by cases h), HUK.out⟩
                      case measure => simp [intOf]; omega
                    | false =>
                      have HCA : Hid (¬ CandT E O x) := Lib.hid fun h => by have := HRB.out.trans (readyN_all.2 h.2); cases this
                      go_wp2_with fail
                      go_roundw
                      case rel => exact ⟨bv, false, i + 1, by omega, rfl, rfl, by go_num, HBN.out.skip HX.out (.inl HCA.out), HUK.out⟩
                      case measure => simp [intOf]; omega
              | true =>
                by_cases hgt : bv < x
                · go_wp2_with fail
                  go_roundw
                  case rel => exact ⟨bv, true, i + 1, by omega, rfl, rfl, by go_num, HBN.out.skip HX.out (.inr ⟨rfl, by omega⟩), HUI.out⟩
                  case measure => simp [intOf]; omega
                · go_wp2_with fail
                  obtain ⟨wi, rfl⟩ : ∃ wi, wi = wr := ⟨_, rfl⟩
                  go_loopw [12, 13] (fun r s wr => ∃ (rb : Bool) (k : Nat), k ≤ E.length ∧ r = .bool rb ∧ s = .int .i64 k ∧ rb = readyN E O x k ∧ Upd Nowhere wi wr) (fun _ s _ => E.length - (intOf s).toNat)
                  case atStart => exact ⟨true, 0, by omega, rfl, rfl, rfl, Upd.refl _ _⟩
                  case round =>
                    obtain ⟨rb, k, hk, rfl, rfl, hrb, hu⟩ := hrel
                    have HRB := Lib.hid hrb
                    have HUK := Lib.hid (HUI.out.trans (F := Nowhere) hu fun _ _ => id)
                    have HUW := Lib.hid hu
                    clear hrb hu
                    by_cases hke : k < E.length
                    · obtain ⟨⟨e1, e2⟩, he⟩ : ∃ e, E[k]? = some e := ⟨_, List.getElem?_eq_getElem hke⟩
                      have hki : (k : Int) < (E.length : Nat) := by omega
                      obtain ⟨b2, o2, c2, hE2, hb2, p0, p1⟩ := edge_at (HOE3.out.upd (HU.out.trans (F := Nowhere) HUK.out fun _ _ => id) fun _ _ => id).els he
                      cases hE2
                      obtain ⟨b1, o1, c1', hE1, hb1, q0⟩ := num_at (HC.out.upd (HU.out.trans (F := Nowhere) HUK.out fun _ _ => id) fun _ _ => id).els HX.out
                      cases hE1
                      have HIN : Hid (∀ W, Upd Nowhere wr W → NumsE W (.slice A8 O.length c8) O) := Lib.hid fun W hW => (HO.out.upd (HUK.out.trans (F := Nowhere) hW fun _ _ => id) fun _ _ => id).els
                      have HSU := Lib.hid (readyN_succ (O := O) (x := x) he)
                      have HLO := Lib.hid (show O.length ≤ 1000 by omega)
                      clear he
                      go_upto_region 17 with (fail)
                      cases rb with
                      | false =>
                        go_quiet (fail)
                        go_wp2_with fail
                        go_roundw
                        case rel => exact ⟨false, k + 1, by omega, rfl, by go_num, by rw [HSU.out, ← HRB.out]; rfl, HUW.out.drewN _⟩
                        case measure => simp [intOf]; omega
                      | true =>
                        by_cases hex : e1 = x
                        · subst hex
                          have hne : (e1 != e1) = false := by simp
                          · skip
                            go_quiet ((go_at_call 26; exact Calls.quiet_of_same (hin_ok (HIN.out _ ((Upd.refl Nowhere wr).drewN _)) HLO.out e2)))
                            go_wp2_with fail
                            go_roundw
                            case rel => exact ⟨decide (e2 ∈ O), k + 1, by omega, rfl, by go_num, by rw [HSU.out, ← HRB.out]; simp, HUW.out.drewN _⟩
                            case measure => simp [intOf]; omega
                        · have hne : (e1 != x) = true := by simpa using hex
                          go_quiet (fail)
                          go_wp2_with fail
                          go_roundw
                          case rel => exact ⟨true, k + 1, by omega, rfl, by go_num, by rw [HSU.out, ← HRB.out]; simp [hex], HUW.out.drewN _⟩
                          case measure => simp [intOf]; omega
                    · have hki : ¬ (k : Int) < (E.length : Nat) := by omega
                      obtain rfl : k = E.length := by omega
                      cases rb with
                      | true =>
                        have HCA : Hid (CandT E O x) := Lib.hid ⟨of_decide_eq_false HD1.out, readyN_all.1 HRB.out.symm⟩
                        obtain ⟨b1, o1, c1', hE1, hb1, q0⟩ := num_at (HC.out.upd (HU.out.trans (F := Nowhere) HUK.out fun _ _ => id) fun _ _ => id).els HX.out
                        cases hE1
                        go_wp2_with fail
                        go_roundw
                        case rel => exact ⟨x, true, i + 1, by omega, rfl, rfl, by go_num, HBN.out.take HX.out HCA.out (fun _ => by omega), HUK.out⟩
                        case measure => simp [intOf]; omega
                      | false =>
                        have HCA : Hid (¬ CandT E O x) := Lib.hid fun h => by have := HRB.out.trans (readyN_all.2 h.2); cases this
                        go_wp2_with fail
                        go_roundw
                        case rel => exact ⟨bv, true, i + 1, by omega, rfl, rfl, by go_num, HBN.out.skip HX.out (.inl HCA.out), HUK.out⟩
                        case measure => simp [intOf]; omega
          · have hii : ¬ (i : Int) < (com.length : Nat) := by omega
            have HBD := Lib.hid (HBN.out.done (by omega) (HG.out O HS.out hlt))
            obtain ⟨v5, w5, hr5, ho5, hg5, hb5⟩ := rkI.app1 (HO.out.upd HUI.out fun _ _ => id) (Nat.le_trans HU.out.size HUI.out.size) 25 bv #[.int .i64 bv] rfl (by omega)
            have HR5 := Lib.hid hr5
            have HO5 := Lib.hid ho5
            have HG5 := Lib.hid hg5
            clear hr5 ho5 hg5 hb5
            go_wp2_with (at_builtin; refine wpList_append_run rfl _ _ _ rfl rfl rfl HR5.out ?_)
            go_roundw
            case rel => exact ⟨O ++ [bv], by simp; omega, HO5.out, HS.out.snoc HBD.out, (HU.out.trans (F := Nowhere) HUI.out fun _ _ => id).grown HG5.out fun k hk h => by have := HO.out.new k hk; omega⟩
            case measure => rw [ownI_len HO5.out]; simp [lenV]; omega
      · have hli : ¬ (O.length : Int) < (com.length : Nat) := by omega
        go_wp2_with fail
        go_ret2
        exact ⟨.inr ⟨E, _, O, HE.out, HB.out, rfl, HO.out.els, by rw [HCOM.out]; exact HS.out, by rw [HCOM.out]; omega⟩, HU3.out.trans (F := Nowhere) HU.out fun _ _ => id⟩
end Go.Proofs.Ytddknmgajacofaa
