/-
  HistoryFinds returns true, for all events.
-/
import Derived.Test.YtddknmgajacofaaFindC
namespace Go.Proofs.Ytddknmgajacofaa
open Go Go.RowKit

theorem cntB_wk {l : List EvD} {a : Nat} {e : EvD} (hk : e.kind = 1) (h : cntB l a e.tx = true) : wkOf l e a = true ∧ e.tx ∈ ordN l l.length := by
  unfold cntB at h
  rw [wkOf_at]
  cases hx : atN l l.length e.tx with
  | none => rw [hx] at h; cases h
  | some j =>
    rw [hx] at h
    exact ⟨by simp only [hk]; simpa using h, ordN_mem hx⟩
theorem great_small {l : List EvD} (h : greatB l = false) : l.length ≤ 60 ∧ ∀ e ∈ l, e.ky.length ≤ maxLen := by
  simp only [greatB, Bool.or_eq_false_iff, decide_eq_false_iff_not, List.any_eq_false] at h
  refine ⟨by omega, fun e he => ?_⟩
  have := h.2 e he
  simp only [bigE, Bool.or_eq_true, decide_eq_true_eq, not_or] at this
  have h1 : e.ky.length = e.key.size := Array.length_toList
  rw [h1]
  have : e.key.size ≤ 100 := by omega
  exact Nat.le_trans this (by decide)

theorem wrap_rem (x : Int) (n : Nat) (h0 : 0 < n) (hn : n ≤ 60) : ∃ k : Nat, k < n ∧ wrap64 ((IntKind.u64.wrap x).tmod (n : Int)) = (k : Nat) := by
  have h1 : 0 ≤ IntKind.u64.wrap x := by
    unfold IntKind.wrap
    simp [IntKind.signed, IntKind.bits]
    omega
  generalize IntKind.u64.wrap x = y at *
  have h2 : y.tmod (n : Int) = y % (n : Int) := Int.tmod_eq_emod_of_nonneg h1
  have h3 : 0 ≤ y % (n : Int) := Int.emod_nonneg _ (by omega)
  have h4 : y % (n : Int) < n := Int.emod_lt_of_pos _ (by omega)
  refine ⟨(y % (n : Int)).toNat, by omega, ?_⟩
  rw [h2]
  generalize y % (n : Int) = z at *
  unfold wrap64
  rw [Int.toNat_of_nonneg h3]
  omega
theorem wrap_len (n : Nat) (hn : n ≤ 60) : IntKind.u64.wrap (n : Int) = n := by
  unfold IntKind.wrap
  simp [IntKind.signed, IntKind.bits]
  omega

set_option maxHeartbeats 4000000 in
set_option maxRecDepth 100000 in
theorem historyFinds_walk {w : World} {v : Value} {l : List EvD} (h : EvsE w v l) (at0 : Int) (vh : Bool) (vd : ByteArray) : Calls Try.prog 4 #[v, .int .i64 at0, .agg #[.bool vh, .string vd]] w fun e w' => e = .returned (.bool true) ∧ Upd Nowhere w w' := by
  obtain ⟨A, c, rfl, hc⟩ := h.val
  have H := Lib.hid (h.alloc (.cells #[.bool vh, .string vd] 35))
  have hb0 := Blk.new w 35 #[.bool vh, .string vd]
  have c0 := hb0.cell
  have HB := Lib.hid hb0
  have HU := Lib.hid ((Upd.refl Nowhere w).alloc (.cells #[.bool vh, .string vd] 35))
  clear h hb0
  go_enter Try.func4, Try.ntmps4
  cases hg : greatB l with
  | true =>
    go_wp2_with (first
      | (go_at_call 5; refine (great_ok H.out).mono ?_; rintro e w2 ⟨rfl, rfl⟩; rw [hg])
      | (go_at_call 6; refine (awake_ok _).mono ?_; rintro e w2 ⟨rfl, hu⟩; have HU2 := Lib.hid (HU.out.trans (F := Nowhere) hu fun _ _ => id); clear hu))
    go_ret
    exact ⟨rfl, HU2.out⟩
  | false =>
    by_cases hl0 : l.length = 0
    · obtain rfl := List.length_eq_zero_iff.1 hl0
      clear hl0
      have H := Lib.hid (show EvsE (w.alloc (.cells #[.bool vh, .string vd] 35)) (.slice A 0 c) [] from H.out)
      simp only [List.length_nil]
      go_wp2_with (first
        | (go_at_call 5; refine (great_ok H.out).mono ?_; rintro e w2 ⟨rfl, rfl⟩; rw [hg])
        | (go_at_call 6; refine (awake_ok _).mono ?_; rintro e w2 ⟨rfl, hu⟩; have HU2 := Lib.hid (HU.out.trans (F := Nowhere) hu fun _ _ => id); clear hu))
      go_ret
      exact ⟨rfl, HU2.out⟩
    · have hb : (((l.length : Nat) : Int) == 0) = false := by simpa using hl0
      by_cases hvd : 100 < vd.size
      · have hb2 : (100 : Int) < (vd.size : Nat) := by omega
        go_wp2_with (first
          | (go_at_call 5; refine (great_ok H.out).mono ?_; rintro e w2 ⟨rfl, rfl⟩; rw [hg])
          | (go_at_call 6; refine (awake_ok _).mono ?_; rintro e w2 ⟨rfl, hu⟩; have HU2 := Lib.hid (HU.out.trans (F := Nowhere) hu fun _ _ => id); clear hu))
        go_ret
        exact ⟨rfl, HU2.out⟩
      · have hb2 : ¬ (100 : Int) < (vd.size : Nat) := by omega
        have HL := Lib.hid (great_small hg)
        go_upto_region 3 with (go_at_call 5; refine (great_ok H.out).mono ?_; rintro e w2 ⟨rfl, rfl⟩; rw [hg])
        go_cut [1] (fun s wz => ∃ k : Nat, k < l.length ∧ s = .int .i64 k ∧ wz = w.alloc (.cells #[.bool vh, .string vd] 35))
        case first =>
          have hwl := wrap_len l.length HL.out.1
          have hlne : ¬ ((l.length : Nat) : Int) = 0 := by omega
          obtain ⟨k, hk, hwk⟩ := wrap_rem at0 l.length (by omega) HL.out.1
          go_wp2_with fail
          go_meet
          exact ⟨k, hk, by rw [hwk], rfl⟩
        case rest =>
          obtain ⟨k, hk, rfl, rfl⟩ := hcut
          obtain ⟨⟨kd, tx, key, has, data⟩, he⟩ : ∃ e, l[k]? = some e := ⟨_, List.getElem?_eq_getElem hk⟩
          have HE := Lib.hid he
          have HSZ : Hid (w.heap.size < (w.alloc (.cells #[.bool vh, .string vd] 35)).heap.size) := Lib.hid (by simp)
          generalize hbx : w.heap.size = bx at *
          generalize w.alloc (.cells #[.bool vh, .string vd] 35) = w1 at *
          clear he hb hb2 hvd hl0 c0
          go_upto_region 5 with (first
            | (go_at_call 8
               refine (own_ok (H.out.upd (F := Nowhere) (Upd.refl _ _) fun _ _ => id) (Nat.le_trans HL.out.1 (by omega))).mono ?_
               rintro r w2 ⟨v2, rfl, ho2, hu2⟩
               obtain ⟨A2, c2, rfl, _⟩ := ho2.els.val
               have HO2 := Lib.hid ho2
               have HU2 := Lib.hid hu2
               clear ho2 hu2)
            | (go_at_call 11
               refine (committed_ok HO2.out.els (Nat.le_trans HL.out.1 (by omega))).mono ?_
               rintro r w3 ⟨v3, rfl, ho3, hu3⟩
               obtain ⟨A3, c3, rfl, _⟩ := ho3.els.val
               have HO3 := Lib.hid ho3
               have HU3 := Lib.hid (HU2.out.trans (F := Nowhere) hu3 fun _ _ => id)
               clear ho3 hu3))
          have hol : (ordN l l.length).length ≤ 60 := Nat.le_trans (ordN_len _ _) HL.out.1
          have HOL := Lib.hid hol
          clear hol
          cases hst : stN l (ordN l l.length) (ordN l l.length).length with
          | none =>
            go_upto_region 6 with (first
              | (go_at_call 8
                 refine (own_ok (H.out.upd HU3.out fun _ _ => id) (Nat.le_trans HL.out.1 (by omega))).mono ?_
                 rintro r w4 ⟨v4, rfl, ho4, hu4⟩
                 have HO4 := Lib.hid ho4
                 have HU4 := Lib.hid (HU3.out.trans (F := Nowhere) hu4 fun _ _ => id)
                 have HO3' := Lib.hid (HO3.out.upd hu4 fun _ _ => id)
                 clear ho4 hu4)
              | (go_at_call 18
                 refine (replay_ok HO4.out.els HL.out.1 HO3'.out.els HOL.out HL.out.2).mono ?_
                 rintro r w5 hr
                 rw [hst] at hr
                 obtain ⟨rfl, hu5⟩ := hr
                 have HU5 := Lib.hid (HU4.out.trans (F := Nowhere) hu5 fun _ _ => id)
                 clear hu5))
            go_quiet (fail)
            go_wp2_with (go_at_call 6; refine (awake_ok _).mono ?_; rintro e w6 ⟨rfl, hu⟩; have HU6 := Lib.hid ((HU5.out.drewN _).trans (F := Nowhere) hu fun _ _ => id); clear hu)
            go_ret
            exact ⟨rfl, HU.out.trans HU6.out fun _ _ => id⟩
          | some vals =>
            go_upto_region 6 with (first
              | (go_at_call 8
                 refine (own_ok (H.out.upd HU3.out fun _ _ => id) (Nat.le_trans HL.out.1 (by omega))).mono ?_
                 rintro r w4 ⟨v4, rfl, ho4, hu4⟩
                 have HO4 := Lib.hid ho4
                 have HU4 := Lib.hid (HU3.out.trans (F := Nowhere) hu4 fun _ _ => id)
                 have HO3' := Lib.hid (HO3.out.upd hu4 fun _ _ => id)
                 clear ho4 hu4)
              | (go_at_call 18
                 refine (replay_ok HO4.out.els HL.out.1 HO3'.out.els HOL.out HL.out.2).mono ?_
                 rintro r w5 hr
                 rw [hst] at hr
                 obtain ⟨v5, rfl, hm5⟩ := hr
                 have HU5 := Lib.hid (HU4.out.trans (F := Nowhere) hm5.upd fun _ _ => id)
                 have HO5 := Lib.hid (HO3'.out.upd hm5.upd fun _ _ => id)
                 clear hm5))
            have H5 : Hid (EvsE w5 (.slice A l.length c) l) := Lib.hid (H.out.upd HU5.out fun _ _ => id)
            obtain ⟨b, off, c', hE, hb, q0, q1, q2, q3, q4⟩ := event_at H5.out HE.out
            cases hE
            have hbk := (HB.out.upd HU5.out id)
            have p0 := hbk.cell 0
            have p1 := hbk.cell 1
            simp only [List.getElem?_toArray, List.getElem?_cons_zero, List.getElem?_cons_succ] at p0 p1
            have HBK := Lib.hid hbk
            have hi : (k : Int) < (l.length : Nat) := by omega
            clear hbk HO4 HO3' HO2 HO3
            go_cut [68] (fun s wz => s = .bool (!(decide (kd = 1) && !(has == vh && data == vd) && cntB l k tx)) ∧ ∃ m, wz = w5.drewN m)
            case first =>
              by_cases hk1 : kd = 1
              · subst hk1
                have hsame : has = vh ∧ (data == vd) = true ∨ has = vh ∧ (data == vd) = false ∨ (has == vh) = false := by
                  cases has <;> cases vh <;> cases data == vd <;> simp
                rcases hsame with ⟨rfl, hd⟩ | ⟨rfl, hd⟩ | hh
                · obtain rfl := (MapKept.bytes_beq data vd).1 hd
                  go_quiet (fail)
                  go_wp2_with fail
                  go_meet
                  exact ⟨by simp [hd], _, rfl⟩
                · have hd2 := bytes_ne hd
                  cases hcn : cntB l k tx
                  all_goals
                    go_quiet ((go_at_call 19; exact Calls.quiet_of (counts_ok (H.out.upd (HU5.out.drewN _) fun _ _ => id) (Nat.le_trans HL.out.1 (by omega)) HE.out)))
                    go_wp2_with fail
                    go_meet
                    exact ⟨by simp [hd, hcn], _, rfl⟩
                · cases hcn : cntB l k tx
                  all_goals
                    go_quiet ((go_at_call 19; exact Calls.quiet_of (counts_ok (H.out.upd (HU5.out.drewN _) fun _ _ => id) (Nat.le_trans HL.out.1 (by omega)) HE.out)))
                    go_wp2_with fail
                    go_meet
                    exact ⟨by simp [hh, hcn], _, rfl⟩
              · have hk2 : (kd != 1) = true := by simp [hk1]
                go_quiet (fail)
                go_wp2_with fail
                go_meet
                exact ⟨by simp [hk1], _, rfl⟩
            case rest =>
              obtain ⟨rfl, m5, rfl⟩ := hcut
              cases hcond : (decide (kd = 1) && !(has == vh && data == vd) && cntB l k tx) with
              | false =>
                have HU6 := Lib.hid (HU5.out.drewN m5)
                go_wp2_with (go_at_call 6; refine (awake_ok _).mono ?_; rintro e w6 ⟨rfl, hu⟩; have HU7 := Lib.hid (HU6.out.trans (F := Nowhere) hu fun _ _ => id); clear hu)
                go_ret
                exact ⟨rfl, HU.out.trans HU7.out fun _ _ => id⟩
              | true =>
                simp only [Bool.and_eq_true, decide_eq_true_eq, Bool.not_eq_true'] at hcond
                obtain ⟨⟨rfl, hne⟩, hcn⟩ := hcond
                obtain ⟨hwk, hmem⟩ := cntB_wk (e := ⟨1, tx, key, has, data⟩) rfl hcn
                have hvne : ({ (EvD.mk 1 tx key has data) with has := vh, data := vd } : EvD).vl ≠ (EvD.mk 1 tx key has data).vl := fun e => by
                  simp only [EvD.vl, Prod.mk.injEq] at e
                  obtain ⟨rfl, rfl⟩ := e
                  simp [(MapKept.bytes_beq vd vd).2 rfl] at hne
                have HN := Lib.hid (finds (e' := { (EvD.mk 1 tx key has data) with has := vh, data := vd }) HE.out rfl rfl rfl rfl hvne hwk hmem hst)
                have H6 : Hid (EvsE (w5.drewN m5) (.slice (some ⟨b, off, none⟩) l.length c) l) := Lib.hid H5.out
                have HU6 := Lib.hid (HU5.out.drewN m5)
                have HO6 := Lib.hid (HO5.out.upd ((Upd.refl Nowhere w5).drewN m5) fun _ _ => id)
                have HB6 : Hid (Blk (w5.drewN m5) bx 35 #[.bool vh, .string vd]) := Lib.hid HBK.out
                clear hne hcn hwk hmem hvne q0 q1 q2 q3 q4 p0 p1 H5 HU5 HO5 HBK
                generalize w5.drewN m5 = w6 at *
                go_upto_region 9 with
                  (go_at_call 8
                   refine (own_ok H6.out (Nat.le_trans HL.out.1 (by omega))).mono ?_
                   rintro r w7 ⟨v7, rfl, ho7, hu7⟩
                   obtain ⟨g, cap, rfl, hgB, hgl, hfz, hc3, hc4, hcs, hgv⟩ := ho7.give HE.out vh vd
                   have HO7 := Lib.hid ho7
                   have HU7 := Lib.hid hu7
                   have HGV := Lib.hid hgv
                   have HCS := Lib.hid hcs
                   have HGB := Lib.hid hgB
                   have hbk := HB6.out.upd hu7 id
                   clear ho7 hu7 hgv hcs hgB)
                have HU8 : Hid (Upd Nowhere w6 ((w7.setCell ⟨g, k * 5 + 3, none⟩ (.bool vh)).setCell ⟨g, k * 5 + 4, none⟩ (.string vd))) := Lib.hid ((HU7.out.setCell (fun h => by have := HGB.out; simp at h; omega) _).setCell (fun h => by have := HGB.out; simp at h; omega) _)
                have hbc0 := hbk.cell 0
                have hbc1 := hbk.cell 1
                simp only [List.getElem?_toArray, List.getElem?_cons_zero, List.getElem?_cons_succ] at hbc0 hbc1
                have hgi : (k : Int) < (l.length : Nat) := by omega
                have HKY : Hid (∀ e ∈ l.set k { (EvD.mk 1 tx key has data) with has := vh, data := vd }, e.ky.length ≤ maxLen) := Lib.hid fun e hm => by
                  rcases List.mem_or_eq_of_mem_set hm with hm | rfl
                  · exact HL.out.2 e hm
                  · exact HL.out.2 (EvD.mk 1 tx key has data) (List.mem_of_getElem? HE.out)
                clear hbk
                go_upto_region 10 with (fail)
                clear hc3 hc4 hfz hbc0 hbc1 HO7
                generalize (w7.setCell ⟨g, k * 5 + 3, none⟩ (.bool vh)).setCell ⟨g, k * 5 + 4, none⟩ (.string vd) = w8 at *
                have HO8 := Lib.hid (HO6.out.upd HU8.out fun _ _ => id)
                go_wp2_with (first
                  | (go_at_call 18
                     refine (replay_ok HGV.out.els (by rw [List.length_set]; exact HL.out.1) HO8.out.els HOL.out HKY.out).mono ?_
                     rintro r w9 hr
                     rw [HN.out] at hr
                     obtain ⟨rfl, hu9⟩ := hr
                     have HU9 := Lib.hid ((HU6.out.trans (F := Nowhere) HU8.out fun _ _ => id).trans (F := Nowhere) hu9 fun _ _ => id)
                     clear hu9)
                  | (go_at_call 6; refine (awake_ok _).mono ?_; rintro e w10 ⟨rfl, hu⟩; have HU10 := Lib.hid (HU9.out.trans (F := Nowhere) hu fun _ _ => id); clear hu))
                go_ret
                exact ⟨rfl, HU.out.trans HU10.out fun _ _ => id⟩
end Go.Proofs.Ytddknmgajacofaa
