/-
  HistoryTells returns true, for all events.
-/
import Derived.Test.YtddknmgajacofaaTfA
import Derived.Test.YtddknmgajacofaaTeF
import Derived.Test.YtddknmgajacofaaTeG
import Derived.Test.YtddknmgajacofaaTeJ
import Derived.Test.YtddknmgajacofaaTeQ
import Derived.Test.YtddknmgajacofaaHistT
import Derived.Test.YtddknmgajacofaaAwake26
namespace Go.Proofs.Ytddknmgajacofaa
open Go Go.RowKit

theorem great_not' {l : List EvD} (h : greatB l = false) : l.length ≤ 60 ∧ True := by
  simp only [greatB, Bool.or_eq_false_iff, decide_eq_false_iff_not] at h
  exact ⟨by omega, trivial⟩
/-- What both sides tell of the order. -/
def SerF (l : List EvD) (fl : Bool) (O : List Int) : Prop := ∃ E, AheadIs l E ∧ ((fl = false ∧ Cyc E ∧ O = []) ∨ (fl = true ∧ ¬ Cyc E ∧ Ser E (ordN l l.length) O ∧ O.length = (ordN l l.length).length))
theorem SerF.unique {l : List EvD} {f g : Bool} {O P : List Int} (h : SerF l f O) (h' : SerF l g P) : f = g ∧ O = P := by
  obtain ⟨E, hE, h⟩ := h
  obtain ⟨E', hE', h'⟩ := h'
  obtain rfl := hE.unique hE'
  rcases h with ⟨rfl, h1, rfl⟩ | ⟨rfl, h1, h2, h3⟩ <;> rcases h' with ⟨rfl, h4, rfl⟩ | ⟨rfl, h4, h5, h6⟩
  · exact ⟨rfl, rfl⟩
  · exact absurd h1 h4
  · exact absurd h4 h1
  · exact ⟨rfl, h2.unique h5 (h3.trans h6.symm)⟩
theorem SerF.len {l : List EvD} {f : Bool} {O : List Int} (h : SerF l f O) (hl : l.length ≤ 60) : O.length ≤ 1000 := by
  obtain ⟨E, _, ⟨_, _, rfl⟩ | ⟨_, _, _, h⟩⟩ := h
  · simp
  · have := ordN_len l l.length
    omega
theorem SerOut.flag {w w' : World} {l : List EvD} {r : Ending} (h : SerOut w l r w') : ∃ v fl O, r = .returned (.tuple #[v, .bool fl]) ∧ NumsE w' v O ∧ SerF l fl O := by
  rcases h.out with ⟨E, h1, h2, rfl⟩ | ⟨E, v', O, h1, h2, rfl, h3, h4, h5⟩
  · exact ⟨_, _, [], rfl, Reads.of_own (World.ownsRow_nil w' 0 3 1), E, h1, .inl ⟨rfl, h2, rfl⟩⟩
  · exact ⟨_, _, O, rfl, h3, E, h1, .inr ⟨rfl, h2, h4, h5⟩⟩
set_option maxHeartbeats 4000000 in
set_option maxRecDepth 100000 in
theorem historyTells_walk {w : World} {v : Value} {l : List EvD} (h : EvsE w v l) : Calls Try.prog 3 #[v] w fun e w' => e = .returned (.bool true) ∧ Upd Nowhere w w' := by
  obtain ⟨A, c, rfl, hc⟩ := h.val
  have H := Lib.hid h
  clear h
  go_enter Try.func3, Try.ntmps3
  cases hg : greatB l with
  | true =>
    go_wp2_with (first
      | (go_at_call 5; refine (great_ok H.out).mono ?_; rintro e w2 ⟨rfl, rfl⟩; rw [hg])
      | (go_at_call 6; refine (awake_ok _).mono ?_; rintro e w2 ⟨rfl, hu⟩; have HU := Lib.hid hu; clear hu))
    go_ret
    exact ⟨rfl, HU.out⟩
  | false =>
    have HL := Lib.hid (great_not' hg)
    go_wp2_with (go_at_call 5; refine (great_ok H.out).mono ?_; rintro e w2 ⟨rfl, rfl⟩; rw [hg])
    refine (own_ok H.out (Nat.le_trans HL.out.1 (by omega))).mono ?_
    rintro r w3 ⟨v3, rfl, hov, hu⟩
    have HO := Lib.hid hov.els
    have HW := Lib.hid (H.out.upd hu fun _ _ => id)
    have HU := Lib.hid hu
    clear hov hu H
    go_wp2_with fail
    refine (serial_ok HO.out HL.out.1).mono ?_
    rintro r w4 hs
    obtain ⟨vs1, fl, O, rfl, ho1, hf1⟩ := hs.flag
    have HW := Lib.hid (HW.out.upd hs.upd fun _ _ => id)
    have HU := Lib.hid (HU.out.trans (F := Nowhere) hs.upd fun _ _ => id)
    have HO1 := Lib.hid ho1
    have HF1 := Lib.hid hf1
    clear hs ho1 hf1
    go_wp2_with fail
    refine (rserial_ok HW.out HL.out.1).mono ?_
    rintro r w5 hs
    obtain ⟨vs2, fl2, O2, rfl, ho2, hf2⟩ := hs.flag
    obtain ⟨rfl, rfl⟩ := hf2.unique HF1.out
    have HW := Lib.hid (HW.out.upd hs.upd fun _ _ => id)
    have HU := Lib.hid (HU.out.trans (F := Nowhere) hs.upd fun _ _ => id)
    have HS := Lib.hid (And.intro (HO1.out.upd hs.upd fun _ _ => id) ho2)
    have HOL := Lib.hid (hf2.len HL.out.1)
    clear hs ho2 hf2
    go_wp2_with fail
    refine (own_ok HW.out (Nat.le_trans HL.out.1 (by omega))).mono ?_
    rintro r wx ⟨vo, rfl, hov, hu⟩
    have HW := Lib.hid (HW.out.upd hu fun _ _ => id)
    have HU := Lib.hid (HU.out.trans (F := Nowhere) hu fun _ _ => id)
    have HS := Lib.hid (And.intro (HS.out.1.upd hu fun _ _ => id) (HS.out.2.upd hu fun _ _ => id))
    have HO := Lib.hid hov.els
    clear hu
    go_wp2_with fail
    refine (committed_ok HO.out (Nat.le_trans HL.out.1 (by omega))).mono ?_
    rintro r wx ⟨vc, rfl, hoc, hu⟩
    have HW := Lib.hid (HW.out.upd hu fun _ _ => id)
    have HU := Lib.hid (HU.out.trans (F := Nowhere) hu fun _ _ => id)
    have HS := Lib.hid (And.intro (HS.out.1.upd hu fun _ _ => id) (HS.out.2.upd hu fun _ _ => id))
    have HC := Lib.hid hoc.els
    clear hu
    go_wp2_with fail
    refine (rcommitted_ok HW.out HL.out.1).mono ?_
    rintro r wx ⟨vd, rfl, hod, hu⟩
    have HW := Lib.hid (HW.out.upd hu fun _ _ => id)
    have HU := Lib.hid (HU.out.trans (F := Nowhere) hu fun _ _ => id)
    have HS := Lib.hid (And.intro (HS.out.1.upd hu fun _ _ => id) (HS.out.2.upd hu fun _ _ => id))
    have HP := Lib.hid (And.intro (HC.out.upd hu fun _ _ => id) (And.intro hod.els (Nat.le_trans (ordN_len l l.length) (Nat.le_trans HL.out.1 (show 60 ≤ 1000 by omega)))))
    clear hu
    go_wp2_with fail
    refine (sameInts_ok HP.out.1 HP.out.2.1 HP.out.2.2).mono ?_
    rintro r wx ⟨rfl, hu⟩
    have HW := Lib.hid (HW.out.upd hu fun _ _ => id)
    have HU := Lib.hid (HU.out.trans (F := Nowhere) hu fun _ _ => id)
    have HS := Lib.hid (And.intro (HS.out.1.upd hu fun _ _ => id) (HS.out.2.upd hu fun _ _ => id))
    skip
    clear hu
    go_wp2_with fail
    refine (own_ok HW.out (Nat.le_trans HL.out.1 (by omega))).mono ?_
    rintro r wx ⟨vo, rfl, hov, hu⟩
    have HW := Lib.hid (HW.out.upd hu fun _ _ => id)
    have HU := Lib.hid (HU.out.trans (F := Nowhere) hu fun _ _ => id)
    have HS := Lib.hid (And.intro (HS.out.1.upd hu fun _ _ => id) (HS.out.2.upd hu fun _ _ => id))
    have HO := Lib.hid hov.els
    clear hu
    go_wp2_with fail
    refine (ahead_ok HO.out HL.out.1).mono ?_
    rintro r wx ⟨⟨va, rfl, EA, hoa, hEA⟩, hu⟩
    have HW := Lib.hid (HW.out.upd hu fun _ _ => id)
    have HU := Lib.hid (HU.out.trans (F := Nowhere) hu fun _ _ => id)
    have HS := Lib.hid (And.intro (HS.out.1.upd hu fun _ _ => id) (HS.out.2.upd hu fun _ _ => id))
    have HA := Lib.hid (And.intro hoa hEA)
    clear hu
    go_wp2_with fail
    refine (rahead_ok HW.out HL.out.1).mono ?_
    rintro r wx ⟨vb, rfl, EB, hob, hEB, hu⟩
    have HW := Lib.hid (HW.out.upd hu fun _ _ => id)
    have HU := Lib.hid (HU.out.trans (F := Nowhere) hu fun _ _ => id)
    have HS := Lib.hid (And.intro (HS.out.1.upd hu fun _ _ => id) (HS.out.2.upd hu fun _ _ => id))
    have hEE := hEB.unique HA.out.2
    subst hEE
    have HA := Lib.hid (And.intro (HA.out.1.upd hu fun _ _ => id) (And.intro hob.els (Nat.le_trans (hEB.len HL.out.1) (show 3600 ≤ 10000 by omega))))
    clear hu
    go_wp2_with fail
    refine (sameEdges_ok HA.out.1 HA.out.2.1 HA.out.2.2).mono ?_
    rintro r wx ⟨rfl, hu⟩
    have HW := Lib.hid (HW.out.upd hu fun _ _ => id)
    have HU := Lib.hid (HU.out.trans (F := Nowhere) hu fun _ _ => id)
    have HS := Lib.hid (And.intro (HS.out.1.upd hu fun _ _ => id) (HS.out.2.upd hu fun _ _ => id))
    have HP := Lib.hid (And.intro HS.out.1 (And.intro HS.out.2 HOL.out))
    clear hu
    go_wp2_with fail
    refine (sameInts_ok HP.out.1 HP.out.2.1 HP.out.2.2).mono ?_
    rintro r wx ⟨rfl, hu⟩
    have HW := Lib.hid (HW.out.upd hu fun _ _ => id)
    have HU := Lib.hid (HU.out.trans (F := Nowhere) hu fun _ _ => id)
    have HS := Lib.hid (And.intro (HS.out.1.upd hu fun _ _ => id) (HS.out.2.upd hu fun _ _ => id))
    skip
    clear hu
    go_wp2_with fail
    refine (own_ok HW.out (Nat.le_trans HL.out.1 (by omega))).mono ?_
    rintro r wx ⟨vo, rfl, hov, hu⟩
    have HW := Lib.hid (HW.out.upd hu fun _ _ => id)
    have HU := Lib.hid (HU.out.trans (F := Nowhere) hu fun _ _ => id)
    have HS := Lib.hid (And.intro (HS.out.1.upd hu fun _ _ => id) (HS.out.2.upd hu fun _ _ => id))
    have HO := Lib.hid hov.els
    clear hu
    go_wp2_with fail
    refine (strict_ok HO.out HL.out.1).mono ?_
    rintro r wx ⟨⟨sb1, rfl, hsb1⟩, hu⟩
    have HW := Lib.hid (HW.out.upd hu fun _ _ => id)
    have HU := Lib.hid (HU.out.trans (F := Nowhere) hu fun _ _ => id)
    have HS := Lib.hid (And.intro (HS.out.1.upd hu fun _ _ => id) (HS.out.2.upd hu fun _ _ => id))
    have HB1 := Lib.hid hsb1
    clear hu
    go_wp2_with fail
    refine (rstrict_ok HW.out HL.out.1).mono ?_
    rintro r wx ⟨⟨sb2, rfl, hsb2⟩, hu⟩
    have HW := Lib.hid (HW.out.upd hu fun _ _ => id)
    have HU := Lib.hid (HU.out.trans (F := Nowhere) hu fun _ _ => id)
    have HS := Lib.hid (And.intro (HS.out.1.upd hu fun _ _ => id) (HS.out.2.upd hu fun _ _ => id))
    obtain rfl : sb2 = sb1 := by
      have h1 := HB1.out
      cases sb1 <;> cases sb2 <;> simp_all
    clear hu
    go_wp2_with fail
    refine (awake_ok _).mono ?_
    rintro r wx ⟨rfl, hu⟩
    have HU := Lib.hid (HU.out.trans (F := Nowhere) hu fun _ _ => id)
    clear hu
    go_wp2_with fail
    go_ret
    exact ⟨rfl, HU.out⟩
end Go.Proofs.Ytddknmgajacofaa
