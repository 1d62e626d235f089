/-
  History: the document's Replay is the plain fold.
-/
import Derived.Test.YtlhmbbnjnonmnaaHistM
namespace Go.Proofs.Ytlhmbbnjnonmnaa
open Go Go.RowKit

/-- What a Replay answers. -/
def RepOut (w : World) (st : Option (List (Ky × Vl))) (r : Ending) (w' : World) : Prop := match st with
  | none => r = .returned (.tuple #[.slice none 0 0, .bool false]) ∧ Upd Nowhere w w'
  | some vals => ∃ v', r = .returned (.tuple #[v', .bool true]) ∧ Made w w' v' vals
theorem RepOut.wrong {w w' : World} {st : Option (List (Ky × Vl))} (h : st = none) (hu : Upd Nowhere w w') : RepOut w st (.returned (.tuple #[.slice none 0 0, .bool false])) w' := by subst h; exact ⟨rfl, hu⟩
theorem RepOut.right {w w' : World} {st : Option (List (Ky × Vl))} {vals : List (Ky × Vl)} {v' : Value} (h : st = some vals) (hm : Made w w' v' vals) : RepOut w st (.returned (.tuple #[v', .bool true])) w' := by subst h; exact ⟨_, rfl, hm⟩
set_option maxHeartbeats 4000000 in
set_option maxRecDepth 100000 in
theorem hreplay_ok {w : World} {v u : Value} {l : List EvD} {o : List Int} (h : EvsE w v l) (hl : l.length ≤ 60) (ho : NumsE w u o) (hol : o.length ≤ 60) : Calls Try.prog 8 #[v, u] w (RepOut w (stN l o o.length)) := by
  obtain ⟨A, c, rfl, hc⟩ := h.val
  obtain ⟨B, d, rfl, hd⟩ := ho.val
  have H := Lib.hid h
  have HO := Lib.hid ho
  clear h ho
  go_enter Try.func8, Try.ntmps8
  go_wp2_with fail
  go_loopw [6, 7] (fun t s wr => ∃ (k : Nat) (vals : List (Ky × Vl)), k ≤ o.length ∧ s = .int .i64 k ∧ stN l o k = some vals ∧ Made w wr t vals ∧ (vals = [] → t = .slice none 0 0)) (fun _ s _ => o.length - (intOf s).toNat)
  case atStart => exact ⟨0, [], by omega, rfl, rfl, Made.nil w, fun _ => rfl⟩
  case round =>
    obtain ⟨k, vals, hk, rfl, hst, hM, hnil⟩ := hrel
    have HNIL := Lib.hid hnil
    clear hnil
    by_cases hlt : k < o.length
    · obtain ⟨t, ht⟩ : ∃ t, o[k]? = some t := ⟨_, List.getElem?_eq_getElem hlt⟩
      obtain ⟨b, off, d', hE, hb, q0⟩ := num_at (HO.out.upd hM.upd fun _ _ => id) ht
      cases hE
      have hi : (k : Int) < (o.length : Nat) := by omega
      have hkd : (k : Int) ≤ (d : Nat) := by omega
      have hk0 : (0 : Int) ≤ (k : Nat) := by omega
      have HM := Lib.hid hM
      have HST := Lib.hid hst
      have HT := Lib.hid ht
      have HTK : Hid (∀ W, Upd Nowhere w W → NumsE W (.slice (some ⟨b, off, none⟩) k d) (o.take k)) := Lib.hid fun W hW => Els.take (cells := fun n : Int => [Value.int .i64 n]) (fun _ => rfl) (HO.out.upd hW fun _ _ => id) hk
      have HUR := Lib.hid hM.upd
      clear hM hst ht
      go_upto_region 5 with (fail)
      go_cut [22] (fun s wz => s = .bool (decide (t ∈ o.take k)) ∧ wz = wr.drew)
      case first =>
        go_region_held3 (fun w' => w'.cell? ⟨b, off + k, none⟩ = some (.int .i64 t)) (first | exact q0 | go_keep)
          (first
            | (go_at_call 17
               refine (hin_ok (HTK.out _ HUR.out.drew) (by simp; omega) t).mono ?_
               rintro e w2 ⟨rfl, rfl⟩))
        all_goals
          go_wp2_with fail
          go_meet
          exact ⟨rfl, rfl⟩
      case rest =>
        obtain ⟨rfl, rfl⟩ := hcut
        by_cases hin : t ∈ o.take k
        · have HN := Lib.hid (stN_seen HST.out HT.out hin)
          have hdt : decide (t ∈ o.take k) = true := by simp [hin]
          rw [hdt]
          clear hin hdt
          go_wp2_with fail
          go_roundw
          case rel => exact ⟨k + 1, vals, by omega, by go_num, HN.out, ⟨HM.out.row, HM.out.new, HM.out.upd.drew⟩, HNIL.out⟩
          case measure => simp [intOf]; omega
        · have HN := Lib.hid (stN_new HST.out HT.out hin)
          have hdt : decide (t ∈ o.take k) = false := by simp [hin]
          rw [hdt]
          clear hin hdt q0
          have HVL := Lib.hid (stN_len HST.out)
          have HM1 : Hid (Made w wr.drew u6 vals) := Lib.hid ⟨HM.out.row, HM.out.new, HM.out.upd.drew⟩
          clear HM
          go_wp2_with fail
          generalize wr.drew = wq at *
          go_loopw [6, 8] (fun x s wr => ∃ (j : Nat) (v1 : List (Ky × Vl)), j ≤ l.length ∧ s = .int .i64 j ∧ runL (txW l t j) vals = some v1 ∧ Made w wr x v1 ∧ (v1 = [] → x = .slice none 0 0)) (fun _ s _ => l.length - (intOf s).toNat)
          case atStart => exact ⟨0, vals, by omega, rfl, rfl, HM1.out, HNIL.out⟩
          case round =>
            obtain ⟨j, v1, hj, rfl, hrl, hMR, hnil⟩ := hrel
            have HNI := Lib.hid hnil
            clear hnil
            by_cases hjl : j < l.length
            · obtain ⟨⟨kd, tx, key, has, data⟩, he⟩ : ∃ e, l[j]? = some e := ⟨_, List.getElem?_eq_getElem hjl⟩
              have HL : Hid (∀ W, Upd Nowhere w W → EvsE W (.slice A l.length c) l) := Lib.hid fun W hW => H.out.upd hW fun _ _ => id
              obtain ⟨b1, o1, c1, hE1, hb1, q0, q1, q2, q3, q4⟩ := event_at (HL.out _ hMR.upd) he
              cases hE1
              obtain ⟨b9, off9, d9, hE9, hb9, p0⟩ := num_at (HO.out.upd hMR.upd fun _ _ => id) HT.out
              cases hE9
              have hji : (j : Int) < (l.length : Nat) := by omega
              have HE := Lib.hid he
              have HMR := Lib.hid hMR
              have HRL := Lib.hid hrl
              clear he hMR hrl
              by_cases htx : tx = t
              · subst htx
                cases hwk : wkOf l ⟨kd, tx, key, has, data⟩ j with
                | false =>
                  have HX : Hid (¬ ((EvD.mk kd tx key has data).tx = tx ∧ wkOf l ⟨kd, tx, key, has, data⟩ j = true)) := Lib.hid (by rw [hwk]; simp)
                  go_upto_region 9 with (fail)
                  go_cut [44] (fun s wz => s = .bool true ∧ ∃ m, wz = wr.drewN m)
                  case first =>
                    go_quiet ((go_at_call 18; exact Calls.quiet_of_same (hworks_ok (HL.out _ (HMR.out.upd.drewN _)) (by omega) HE.out)))
                    go_wp2_with fail
                    go_meet
                    exact ⟨rfl, _, rfl⟩
                  case rest =>
                    obtain ⟨rfl, nq, rfl⟩ := hcut
                    go_wp2_with fail
                    go_roundw
                    case rel => exact ⟨j + 1, v1, by omega, by go_num, by rw [txW_miss HE.out HX.out]; exact HRL.out, ⟨HMR.out.row, HMR.out.new, HMR.out.upd.drewN nq⟩, HNI.out⟩
                    case measure => simp [intOf]; omega
                | true =>
                  obtain ⟨kl, rfl⟩ : ∃ kl : List UInt8, key = ⟨kl.toArray⟩ := ⟨key.data.toList, by simp⟩
                  have HX := Lib.hid (txW_hit HE.out rfl hwk)
                  have hv1 : v1.length ≤ 5000 := by
                    have h1 := runL_len HRL.out
                    have h2 := HVL.out
                    have h3 := txW_len l tx j
                    have h4 : k * l.length ≤ 60 * 60 := Nat.mul_le_mul (by omega) hl
                    omega
                  have hk12 : kd = 1 ∨ kd = 2 := by
                    have h := hwk
                    simp only [wkOf, Bool.and_eq_true, Bool.or_eq_true, decide_eq_true_eq] at h
                    exact h.1
                  go_upto_region 9 with (fail)
                  go_cut [44] (fun s wz => s = .bool false ∧ ∃ m, wz = wr.drewN m)
                  case first =>
                    go_quiet ((go_at_call 18; exact Calls.quiet_of_same (hworks_ok (HL.out _ (HMR.out.upd.drewN _)) (by omega) HE.out)))
                    go_wp2_with fail
                    go_meet
                    exact ⟨rfl, _, rfl⟩
                  case rest =>
                    obtain ⟨rfl, nq, rfl⟩ := hcut
                    have HMQ : Hid (Made w (wr.drewN nq) u6 v1) := Lib.hid ⟨HMR.out.row, HMR.out.new, HMR.out.upd.drewN nq⟩
                    have HEY : Hid ((EvD.mk kd tx ⟨kl.toArray⟩ has data).ky = kl) := Lib.hid (by simp [EvD.ky])
                    change (wr.drewN nq).cell? _ = _ at q0 q2 q3 q4
                    change b1 < (wr.drewN nq).heap.size at hb1
                    clear HMR p0 q1 hwk
                    generalize wr.drewN nq = wq at *
                    rcases hk12 with rfl | rfl
                    · have HKK : Hid (∀ W, Upd Nowhere wq W → W.cell? ⟨b1, o1 + j * 5, none⟩ = some (.int .i64 1) ∧ W.cell? ⟨b1, o1 + j * 5 + 2, none⟩ = some (.string ⟨kl.toArray⟩) ∧ W.cell? ⟨b1, o1 + j * 5 + 3, none⟩ = some (.bool has) ∧ W.cell? ⟨b1, o1 + j * 5 + 4, none⟩ = some (.string data)) := Lib.hid fun W hW => ⟨(hW.cell hb1 id).trans q0, (hW.cell hb1 id).trans q2, (hW.cell hb1 id).trans q3, (hW.cell hb1 id).trans q4⟩
                      go_upto_region 10 with (fail)
                      obtain ⟨vh, vd, hvv⟩ : ∃ vh vd, valueOf v1 kl = (vh, vd) := ⟨_, _, rfl⟩
                      have HVV := Lib.hid hvv
                      clear hvv
                      obtain ⟨bb, hbb⟩ : ∃ bb, bb = (vh == has && vd == data) := ⟨_, rfl⟩
                      have hbo : ∀ W, (binOp .neq 33 (.agg #[.bool vh, .string vd]) (.agg #[.bool has, .string data])).run Try.prog W = .ok (.bool (!bb)) W := fun W => by rw [hbb]; exact run_neq_val vh has vd data W
                      have HBB := Lib.hid hbb
                      clear hbb
                      go_cut [65] (fun s wz => s = .bool (!bb) ∧ Upd Nowhere wq wz)
                      case first =>
                        go_region_held3 (fun w' => w'.cell? ⟨b1, o1 + j * 5, none⟩ = some (.int .i64 1) ∧ w'.cell? ⟨b1, o1 + j * 5 + 2, none⟩ = some (.string ⟨kl.toArray⟩) ∧ w'.cell? ⟨b1, o1 + j * 5 + 3, none⟩ = some (.bool has) ∧ w'.cell? ⟨b1, o1 + j * 5 + 4, none⟩ = some (.string data)) (first | exact ⟨q0, q2, q3, q4⟩ | go_keep | exact KK)
                          (first
                            | (go_at_call 19
                               refine (hvalue_ok (Els.upd (Reads.of_own HMQ.out.row) ((Upd.refl Nowhere _).drew) fun _ _ => id) hv1 kl).mono ?_
                               rintro r w2 ⟨rfl, hu2⟩
                               rw [show valV (valueOf v1 kl) = .agg #[.bool vh, .string vd] by rw [HVV.out]; rfl]
                               have KK := HKK.out _ ((Upd.refl Nowhere _).drew.trans hu2 fun _ _ => id)
                               have HU2 := Lib.hid ((Upd.refl Nowhere _).drew.trans hu2 fun _ _ => id)
                               clear hu2))
                        all_goals
                          go_wp2_with fail
                          go_meet
                          exact ⟨rfl, HU2.out⟩
                      case rest =>
                        obtain ⟨rfl, hu⟩ := hcut
                        have KK := HKK.out _ hu
                        obtain ⟨k0, _, _, _⟩ := KK
                        have HU2 := Lib.hid hu
                        have HN2 : Hid (¬ (EvD.mk 1 tx ⟨kl.toArray⟩ has data).kind = 2) := Lib.hid (by simp)
                        clear hu q0 q2 q3 q4
                        clear hbo
                        cases bb with
                        | true =>
                          have HR : Hid (runL (txW l tx (j + 1)) vals = some v1) := Lib.hid (by
                            rw [HX.out, runL_snoc HRL.out, runE_right HN2.out]
                            rw [HEY.out, HVV.out]
                            exact same_val.1 HBB.out.symm)
                          go_wp2_with fail
                          go_roundw
                          case rel => exact ⟨j + 1, v1, by omega, by go_num, HR.out, ⟨own_upd HMQ.out.row HU2.out fun _ _ => id, HMQ.out.new, HMQ.out.upd.trans HU2.out fun _ _ => id⟩, HNI.out⟩
                          case measure => simp [intOf]; omega
                        | false =>
                          have HR : Hid (stN l o o.length = none) := Lib.hid (by
                            refine stN_none (k := k + 1) ?_ hlt
                            rw [HN.out]
                            obtain ⟨r, hr⟩ := txW_prefix l tx (show j + 1 ≤ l.length from hjl)
                            rw [hr]
                            refine runL_none_prefix ?_
                            rw [HX.out, runL_snoc HRL.out, runE_wrong HN2.out]
                            rw [HEY.out, HVV.out]
                            intro he
                            have h := HBB.out
                            rw [same_val.2 he] at h
                            cases h)
                          go_wp2_with fail
                          go_ret2
                          exact RepOut.wrong HR.out (HMQ.out.upd.trans HU2.out fun _ _ => id)
                    · go_upto_region 10 with (fail)
                      go_cut [65] (fun s wz => s = .bool false ∧ ∃ m, wz = wq.drewN m)
                      case first =>
                        go_quiet (fail)
                        go_wp2_with fail
                        go_meet
                        exact ⟨rfl, _, rfl⟩
                      case rest =>
                        obtain ⟨rfl, nr, rfl⟩ := hcut
                        have HMS : Hid (Made w (wq.drewN nr) u6 v1) := Lib.hid ⟨HMQ.out.row, HMQ.out.new, HMQ.out.upd.drewN nr⟩
                        change (wq.drewN nr).cell? _ = _ at q0 q2 q3 q4
                        change b1 < (wq.drewN nr).heap.size at hb1
                        clear HMQ
                        generalize wq.drewN nr = ws at *
                        go_upto_region 13 with (fail)
                        have HR : Hid (runL (txW l tx (j + 1)) vals = some (setV v1 kl (has, data))) := Lib.hid (by
                          rw [HX.out, runL_snoc HRL.out, runE_write rfl]
                          rw [HEY.out]
                          rfl)
                        have hne : setV v1 kl (has, data) ≠ [] := setV_ne _ _ _
                        have HNE := Lib.hid hne
                        clear hne
                        go_region_held3 (fun w' => w'.cell? ⟨b1, o1 + j * 5 + 2, none⟩ = some (.string ⟨kl.toArray⟩) ∧ w'.cell? ⟨b1, o1 + j * 5 + 3, none⟩ = some (.bool has) ∧ w'.cell? ⟨b1, o1 + j * 5 + 4, none⟩ = some (.string data)) (first | exact ⟨q2, q3, q4⟩ | exact KK | go_keep)
                          (first
                            | (go_at_call 20
                               refine (hset_ok (Els.upd (Reads.of_own HMS.out.row) ((Upd.refl Nowhere _).drew) fun _ _ => id) hv1 HNI.out kl (has, data)).mono ?_
                               rintro r w2 ⟨v', rfl, hm2⟩
                               have HM2 : Hid (Made w w2 v' (setV v1 kl (has, data))) := Lib.hid ⟨hm2.row, fun k hk => Nat.le_trans HMS.out.upd.size (hm2.new k hk), HMS.out.upd.trans ((Upd.refl Nowhere _).drew.trans hm2.upd fun _ _ => id) fun _ _ => id⟩
                               have KK : w2.cell? ⟨b1, o1 + j * 5 + 2, none⟩ = some (.string ⟨kl.toArray⟩) ∧ w2.cell? ⟨b1, o1 + j * 5 + 3, none⟩ = some (.bool has) ∧ w2.cell? ⟨b1, o1 + j * 5 + 4, none⟩ = some (.string data) := ⟨(hm2.upd.cell hb1 id).trans q2, (hm2.upd.cell hb1 id).trans q3, (hm2.upd.cell hb1 id).trans q4⟩
                               clear hm2))
                        all_goals
                          go_wp2_with fail
                          go_roundw
                          case rel => exact ⟨j + 1, _, by omega, by go_num, HR.out, HM2.out, fun h => absurd h HNE.out⟩
                          case measure => simp [intOf]; omega
              · have HX : Hid (¬ ((EvD.mk kd tx key has data).tx = t ∧ wkOf l ⟨kd, tx, key, has, data⟩ j = true)) := Lib.hid (fun h => htx h.1)
                go_upto_region 9 with (fail)
                go_cut [44] (fun s wz => s = .bool true ∧ ∃ m, wz = wr.drewN m)
                case first =>
                  have hbt : (tx != t) = true := by simp [htx]
                  go_quiet (fail)
                  go_wp2_with fail
                  go_meet
                  exact ⟨rfl, _, rfl⟩
                case rest =>
                  obtain ⟨rfl, nq, rfl⟩ := hcut
                  go_wp2_with fail
                  go_roundw
                  case rel => exact ⟨j + 1, v1, by omega, by go_num, by rw [txW_miss HE.out HX.out]; exact HRL.out, ⟨HMR.out.row, HMR.out.new, HMR.out.upd.drewN nq⟩, HNI.out⟩
                  case measure => simp [intOf]; omega
            · have hji : ¬ (j : Int) < (l.length : Nat) := by omega
              obtain rfl : j = l.length := by omega
              have HMR := Lib.hid hMR
              have HS2 : Hid (stN l o (k + 1) = some v1) := Lib.hid (by rw [HN.out]; exact hrl)
              clear hMR hrl
              go_wp2_with fail
              go_roundw
              case rel => exact ⟨k + 1, v1, by omega, by go_num, HS2.out, HMR.out, HNI.out⟩
              case measure => simp [intOf]; omega
    · have hi : ¬ (k : Int) < (o.length : Nat) := by omega
      obtain rfl : k = o.length := by omega
      have HM := Lib.hid hM
      have HST := Lib.hid hst
      clear hM hst
      go_wp2_with fail
      go_ret2
      exact RepOut.right HST.out HM.out
end Go.Proofs.Ytlhmbbnjnonmnaa
