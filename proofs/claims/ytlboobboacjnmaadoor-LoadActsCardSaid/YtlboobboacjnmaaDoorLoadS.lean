/-
  The reference's load of a seed and a mix.
-/
import Derived.Test.YtlboobboacjnmaaDoorLoadR
import Derived.Deep.RegionHeld3
namespace Go.Proofs.YtlboobboacjnmaaDoor
open Go Go.RowKit

set_option maxHeartbeats 16000000 in
set_option maxRecDepth 100000 in
theorem racts_ok (x : Int) (m : MixD) (w : World) (hm : mayB m = true) : Calls Tryd.prog 8 #[.int .u64 x, m.val] w fun e w' => ∃ A c, e = .returned (.slice A (acL m (x0 x) m.txs.toNat).length c) ∧
    w'.ownsRow w.heap.size 39 11 (.slice A (acL m (x0 x) m.txs.toNat).length c) (acL m (x0 x) m.txs.toNat).length (flatA (acL m (x0 x) m.txs.toNat)) ∧ Upd Nowhere w w' := by
  obtain ⟨hk0, hk1, hn0, hs0, hs1, ht0, ht1⟩ := may_parts m hm
  have hnb : (m.nodes == 0) = false := by simp; omega
  have hnn : m.nodes ≠ 0 := by omega
  have hkb : (m.keys == 0) = false := by simp; omega
  have hkn : m.keys ≠ 0 := by omega
  have HB0 := Lib.hid (Blk.new w 24 #[.int .i64 m.nodes, .int .i64 m.txs, .int .i64 m.steps, .int .i64 m.keys, .int .i64 m.writes, .int .i64 m.quits, .int .i64 m.drops, .int .i64 m.falls])
  have HU := Lib.hid ((Upd.refl Nowhere w).alloc (.cells #[.int .i64 m.nodes, .int .i64 m.txs, .int .i64 m.steps, .int .i64 m.keys, .int .i64 m.writes, .int .i64 m.quits, .int .i64 m.drops, .int .i64 m.falls] 24))
  have hv : x0 x = IntKind.u64.wrap (x + 1) := rfl
  have HV := Lib.hid hv
  clear hv
  unfold MixD.val
  go_enter Tryd.func8, Tryd.ntmps8
  go_wp2_with fail
  rw [← HV.out]
  have HR0 : Hid (RfP w ((w.alloc (.cells #[.int .i64 m.nodes, .int .i64 m.txs, .int .i64 m.steps, .int .i64 m.keys, .int .i64 m.writes, .int .i64 m.quits, .int .i64 m.drops, .int .i64 m.falls] 24)).alloc (.cells #[.int .u64 (x0 x)] 53)) w.heap.size (w.heap.size + 1) m (x0 x) (.slice none 0 0) []) := Lib.hid (RfP.start (HB0.out.alloc _) (Blk.new' _ _ _ (by rw [World.size_alloc])) (Nat.le_refl _) (by omega) (HU.out.alloc _))
  clear HB0 HU HV
  generalize ((w.alloc (.cells #[.int .i64 m.nodes, .int .i64 m.txs, .int .i64 m.steps, .int .i64 m.keys, .int .i64 m.writes, .int .i64 m.quits, .int .i64 m.drops, .int .i64 m.falls] 24)).alloc (.cells #[.int .u64 (x0 x)] 53)) = w4 at *
  generalize hbm : w.heap.size = bm at *
  clear hbm
  generalize bm + 1 = bs at *
  go_loopw [5, 7] (fun t t7 wr => ∃ i : Nat, (i : Int) ≤ m.txs ∧ t7 = .int .i64 i ∧ RfP w wr bm bs m (acX m (x0 x) i) t (acL m (x0 x) i)) (fun _ t _ => m.txs.toNat - (intOf t).toNat)
  case atStart => exact ⟨0, by omega, rfl, HR0.out⟩
  case round =>
    obtain ⟨i, hi, rfl, hR⟩ := hrel
    have hl := acL_length m (x0 x) hs1 i
    have HL := Lib.hid hl
    have cm := hR.mix.cell
    by_cases hlt : (i : Int) < m.txs
    · have HR := Lib.hid hR
      clear hR hl
      generalize HX : acX m (x0 x) i = X at *
      generalize HLL : acL m (x0 x) i = L0 at *
      have HXH := Lib.hid HX
      have HLH := Lib.hid HLL
      clear HX HLL
      go_upto_region 6 with (fail)
      go_cut [5] (fun t wz => RfP w wz bm bs m (nx X) t (L0 ++ ([⟨12, dr X m.nodes, 0, ⟨#[]⟩, false, ⟨#[]⟩⟩] : List ActD)))
      case first =>
        have c0 := cm 0
        clear cm
        go_region_held3 (fun w' => w'.cell? ⟨bm, 0, none⟩ = some (.int .i64 m.nodes)) (first | exact c0 | exact c1 | go_keep | exact c3)
          (first
            | (go_at_call 13
               refine (HR.out.next (Upd.refl Nowhere _).drew).mono ?_
               rintro e w2 ⟨rfl, hR2⟩
               have c1 := hR2.mix.cell 0
               obtain ⟨v3, w3, hrun3, hR3⟩ := hR2.app1 ⟨12, dr X m.nodes, 0, ⟨#[]⟩, false, ⟨#[]⟩⟩ (by have := HL.out; omega)
               have HRUN := Lib.hid hrun3
               have c3 := hR3.mix.cell 0
               have HR3 := Lib.hid hR3
               clear hR2 hrun3 hR3)
            | (refine step_append_run rfl _ _ _ rfl rfl rfl HRUN.out ?_))
        all_goals
          go_wp2_with fail
          go_meet
          exact HR3.out
      case rest =>
        have HR6 := Lib.hid hcut
        clear hcut cm HR
        go_wp2_with fail
        go_loopw [5, 8] (fun t t8 wr => ∃ k : Nat, (k : Int) ≤ m.steps ∧ t8 = .int .i64 k ∧ RfP w wr bm bs m (stX m (nx X) k) t (L0 ++ ([⟨12, dr X m.nodes, 0, ⟨#[]⟩, false, ⟨#[]⟩⟩] : List ActD) ++ stL m (-1 - i) (nx X) k)) (fun _ t _ => m.steps.toNat - (intOf t).toNat)
        case atStart => exact ⟨0, by omega, rfl, by simpa [stL, stX] using HR6.out⟩
        case round =>
          obtain ⟨k, hk, rfl, hR⟩ := hrel
          have hl1 : (L0 ++ ([⟨12, dr X m.nodes, 0, ⟨#[]⟩, false, ⟨#[]⟩⟩] : List ActD) ++ stL m (-1 - i) (nx X) k).length ≤ 5000 := by
            have h1 := stL_length m (-1 - i) (nx X) k
            have h2 := HL.out
            simp only [List.length_append, List.length_cons, List.length_nil]
            omega
          have HL1 := Lib.hid hl1
          have HRk := Lib.hid hR
          have cm := hR.mix.cell
          clear hR hl1 HR6
          by_cases hks : (k : Int) < m.steps
          · generalize HY : stX m (nx X) k = Y at *
            generalize HLY : L0 ++ ([⟨12, dr X m.nodes, 0, ⟨#[]⟩, false, ⟨#[]⟩⟩] : List ActD) ++ stL m (-1 - i) (nx X) k = L1 at *
            have HYH := Lib.hid HY
            have HLYH := Lib.hid HLY
            clear HY HLY
            obtain ⟨d, hd, hd1⟩ : ∃ d : Nat, dr Y m.keys = d ∧ d < 100 := by
              have h0 := dr_nonneg Y m.keys
              have h1 := dr_lt Y hk0
              exact ⟨(dr Y m.keys).toNat, by omega, by omega⟩
            have hk100 : k < 100 := by omega
            have ds1 := digs_size hd1
            have ds2 := digs_size hk100
            have HD := Lib.hid hd
            go_upto_region 10 with (fail)
            go_cut [9] (fun t wz => t = .string ((⟨#[107]⟩ : ByteArray) ++ digs d) ∧ RfP w wz bm bs m (nx Y) u5 L1)
            case first =>
              have hdd : (pick Y).tmod m.keys = (d : Int) := HD.out
              have hc1 : ∀ W : World, (Op.stringOp .add ⟨#[107]⟩ (digs d)).run Tryd.prog W = .ok (.string (⟨#[107]⟩ ++ digs d)) W := fun W => run_string_add_sum W _ _ (by have e : (⟨#[107]⟩ : ByteArray).size = 1 := rfl; omega)
              have c0 := HRk.out.mix.cell 3
              clear cm
              go_region_held3 (fun w' => w'.cell? ⟨bm, 3, none⟩ = some (.int .i64 m.keys)) (first | exact c0 | exact c1 | go_keep)
                (first
                  | (go_at_call 13
                     refine (HRk.out.next (Upd.refl Nowhere _).drew).mono ?_
                     rintro e w2 ⟨rfl, hR2⟩
                     have c1 := hR2.mix.cell 3
                     have HRz := Lib.hid hR2
                     clear hR2)
                  | (go_at_call 14; refine (dig2_ok d hd1 _).mono ?_; rintro e _ ⟨rfl, rfl⟩))
              all_goals
                go_wp2_with fail
                go_meet
                exact ⟨rfl, HRz.out⟩
            case rest =>
              obtain ⟨rfl, hR⟩ := hcut
              have HRa := Lib.hid hR
              clear hR cm
              have cm := HRa.out.mix.cell
              go_upto_region 11 with (fail)
              go_cut [48] (fun t wz => t = .bool (decide (dr (nx Y) 100 < m.writes)) ∧ RfP w wz bm bs m (nx (nx Y)) u5 L1)
              case first =>
                have c0 := HRa.out.mix.cell 4
                clear cm
                go_region_held3 (fun w' => w'.cell? ⟨bm, 4, none⟩ = some (.int .i64 m.writes)) (first | exact c0 | exact c1 | go_keep)
                  (first
                    | (go_at_call 13
                       refine (HRa.out.next (Upd.refl Nowhere _).drew).mono ?_
                       rintro e w2 ⟨rfl, hR2⟩
                       have c1 := hR2.mix.cell 4
                       have HRz := Lib.hid hR2
                       clear hR2))
                all_goals
                  go_wp2_with fail
                  go_meet
                  exact ⟨rfl, HRz.out⟩
              case rest =>
                obtain ⟨rfl, hR⟩ := hcut
                have HRb := Lib.hid hR
                clear hR cm
                have cm := HRb.out.mix.cell
                go_upto_if 48 with (fail)
                go_cut [5] (fun t wz => RfP w wz bm bs m (nx (nx Y)) t (L1 ++ [stepAct m (-1 - i) k Y]))
                case first =>
                  by_cases hw : dr (nx Y) 100 < m.writes
                  · have dw : decide (dr (nx Y) 100 < m.writes) = true := by simpa using hw
                    rw [dw]
                    have ha : stepAct m (-1 - i) k Y = ⟨14, 0, -1 - i, (⟨#[107]⟩ : ByteArray) ++ digs d, true, (⟨#[118]⟩ : ByteArray) ++ digs k⟩ := by simp only [stepAct, if_pos hw, HD.out, Int.toNat_natCast]
                    have HA := Lib.hid ha
                    clear ha
                    have ei : IntKind.i64.wrap (-1 - (i : Int)) = -1 - (i : Int) := IntWalk.i64_in _ (by omega)
                    have hc2 : ∀ W : World, (Op.stringOp .add ⟨#[118]⟩ (digs k)).run Tryd.prog W = .ok (.string (⟨#[118]⟩ ++ digs k)) W := fun W => run_string_add_sum W _ _ (by have e : (⟨#[118]⟩ : ByteArray).size = 1 := rfl; omega)
                    obtain ⟨v3, w3, hrun3, hR3⟩ := HRb.out.app1 ⟨14, 0, -1 - i, (⟨#[107]⟩ : ByteArray) ++ digs d, true, (⟨#[118]⟩ : ByteArray) ++ digs k⟩ (by have h1 := HL1.out; omega)
                    have HRUN := Lib.hid hrun3
                    have HR3 := Lib.hid hR3
                    clear hrun3 hR3
                    go_wp2_with (first | (at_builtin; refine wpList_append_run rfl _ _ _ rfl rfl rfl HRUN.out ?_) | (go_at_call 14; refine (dig2_ok k hk100 _).mono ?_; rintro e _ ⟨rfl, rfl⟩))
                    go_meet
                    rw [HA.out]
                    exact HR3.out
                  · have dw : decide (dr (nx Y) 100 < m.writes) = false := by simpa using hw
                    rw [dw]
                    have ha : stepAct m (-1 - i) k Y = ⟨13, 0, -1 - i, (⟨#[107]⟩ : ByteArray) ++ digs d, false, ⟨#[]⟩⟩ := by simp only [stepAct, if_neg hw, HD.out, Int.toNat_natCast]
                    have HA := Lib.hid ha
                    clear ha
                    have ei : IntKind.i64.wrap (-1 - (i : Int)) = -1 - (i : Int) := IntWalk.i64_in _ (by omega)
                    obtain ⟨v3, w3, hrun3, hR3⟩ := HRb.out.app1 ⟨13, 0, -1 - i, (⟨#[107]⟩ : ByteArray) ++ digs d, false, ⟨#[]⟩⟩ (by have h1 := HL1.out; omega)
                    have HRUN := Lib.hid hrun3
                    have HR3 := Lib.hid hR3
                    clear hrun3 hR3
                    go_wp2_with (first | (at_builtin; refine wpList_append_run rfl _ _ _ rfl rfl rfl HRUN.out ?_))
                    go_meet
                    rw [HA.out]
                    exact HR3.out
                case rest =>
                  have HRc := Lib.hid hcut
                  clear hcut cm
                  have cm := HRc.out.mix.cell
                  go_upto_region 14 with (fail)
                  go_cut [72] (fun t wz => t = .bool (decide (dr (nx (nx Y)) 100 < m.drops)) ∧ RfP w wz bm bs m (nx (nx (nx Y))) u5 (L1 ++ [stepAct m (-1 - i) k Y]))
                  case first =>
                    have c0 := HRc.out.mix.cell 6
                    clear cm
                    go_region_held3 (fun w' => w'.cell? ⟨bm, 6, none⟩ = some (.int .i64 m.drops)) (first | exact c0 | exact c1 | go_keep)
                      (first
                        | (go_at_call 13
                           refine (HRc.out.next (Upd.refl Nowhere _).drew).mono ?_
                           rintro e w2 ⟨rfl, hR2⟩
                           have c1 := hR2.mix.cell 6
                           have HRz := Lib.hid hR2
                           clear hR2))
                    all_goals
                      go_wp2_with fail
                      go_meet
                      exact ⟨rfl, HRz.out⟩
                  case rest =>
                    obtain ⟨rfl, hR⟩ := hcut
                    have HRd := Lib.hid hR
                    clear hR cm
                    have cm := HRd.out.mix.cell
                    go_upto_if 72 with (fail)
                    go_cut [5] (fun t wz => RfP w wz bm bs m (nx (nx (nx Y))) t (L1 ++ [stepAct m (-1 - i) k Y] ++ stepDrop m Y))
                    case first =>
                      by_cases hw : dr (nx (nx Y)) 100 < m.drops
                      · have dw : decide (dr (nx (nx Y)) 100 < m.drops) = true := by simpa using hw
                        rw [dw]
                        have HA : Hid (stepDrop m Y = [⟨3, 0, 0, ⟨#[]⟩, false, ⟨#[]⟩⟩]) := Lib.hid (by simp only [stepDrop, if_pos hw])
                        obtain ⟨v3, w3, hrun3, hR3⟩ := HRd.out.app1 ⟨3, 0, 0, ⟨#[]⟩, false, ⟨#[]⟩⟩ (by have h1 := HL1.out; simp; omega)
                        have HRUN := Lib.hid hrun3
                        have HR3 := Lib.hid hR3
                        clear hrun3 hR3
                        go_wp2_with (first | (at_builtin; refine wpList_append_run rfl _ _ _ rfl rfl rfl HRUN.out ?_))
                        go_meet
                        rw [HA.out]
                        exact HR3.out
                      · have dw : decide (dr (nx (nx Y)) 100 < m.drops) = false := by simpa using hw
                        rw [dw]
                        have HA : Hid (stepDrop m Y = []) := Lib.hid (by simp only [stepDrop, if_neg hw])
                        go_wp2_with fail
                        go_meet
                        rw [HA.out, List.append_nil]
                        exact HRd.out
                    case rest =>
                      have HRe := Lib.hid hcut
                      clear hcut cm
                      have cm := HRe.out.mix.cell
                      go_upto_region 16 with (fail)
                      go_cut [82] (fun t wz => t = .bool (decide (dr (nx (nx (nx Y))) 100 < m.falls)) ∧ RfP w wz bm bs m (nx (nx (nx (nx Y)))) u5 (L1 ++ [stepAct m (-1 - i) k Y] ++ stepDrop m Y))
                      case first =>
                        have c0 := HRe.out.mix.cell 7
                        clear cm
                        go_region_held3 (fun w' => w'.cell? ⟨bm, 7, none⟩ = some (.int .i64 m.falls)) (first | exact c0 | exact c1 | go_keep)
                          (first
                            | (go_at_call 13
                               refine (HRe.out.next (Upd.refl Nowhere _).drew).mono ?_
                               rintro e w2 ⟨rfl, hR2⟩
                               have c1 := hR2.mix.cell 7
                               have HRz := Lib.hid hR2
                               clear hR2))
                        all_goals
                          go_wp2_with fail
                          go_meet
                          exact ⟨rfl, HRz.out⟩
                      case rest =>
                        obtain ⟨rfl, hR⟩ := hcut
                        have HRf := Lib.hid hR
                        clear hR cm
                        have cm := HRf.out.mix.cell
                        go_upto_if 82 with (fail)
                        by_cases hw : dr (nx (nx (nx Y))) 100 < m.falls
                        · have dw : decide (dr (nx (nx (nx Y))) 100 < m.falls) = true := by simpa using hw
                          rw [dw]
                          have HX1 : Hid (stepX m Y = nx (nx (nx (nx (nx Y))))) := Lib.hid (by simp only [stepX, if_pos hw])
                          have HX2 : Hid (stepFall m Y = [⟨6, dr (nx (nx (nx (nx Y)))) m.nodes, 0, ⟨#[]⟩, false, ⟨#[]⟩⟩, ⟨7, dr (nx (nx (nx (nx Y)))) m.nodes, 0, ⟨#[]⟩, false, ⟨#[]⟩⟩]) := Lib.hid (by simp only [stepFall, if_pos hw])
                          go_upto_region 17 with (fail)
                          go_cut [10] (fun t wz => t = .int .i64 (dr (nx (nx (nx (nx Y)))) m.nodes) ∧ RfP w wz bm bs m (nx (nx (nx (nx (nx Y))))) u5 (L1 ++ [stepAct m (-1 - i) k Y] ++ stepDrop m Y))
                          case first =>
                            have c0 := HRf.out.mix.cell 0
                            clear cm
                            go_region_held3 (fun w' => w'.cell? ⟨bm, 0, none⟩ = some (.int .i64 m.nodes)) (first | exact c0 | exact c1 | go_keep)
                              (first
                                | (go_at_call 13
                                   refine (HRf.out.next (Upd.refl Nowhere _).drew).mono ?_
                                   rintro e w2 ⟨rfl, hR2⟩
                                   have c1 := hR2.mix.cell 0
                                   have HRz := Lib.hid hR2
                                   clear hR2))
                            all_goals
                              go_wp2_with fail
                              go_meet
                              exact ⟨rfl, HRz.out⟩
                          case rest =>
                            obtain ⟨rfl, hR⟩ := hcut
                            have HRg := Lib.hid hR
                            clear hR cm
                            have cm := HRg.out.mix.cell
                            obtain ⟨v3, w3, hrun3, hR3⟩ := HRg.out.app1 ⟨6, dr (nx (nx (nx (nx Y)))) m.nodes, 0, ⟨#[]⟩, false, ⟨#[]⟩⟩ (by have h1 := HL1.out; simp only [stepDrop, List.length_append, List.length_cons, List.length_nil]; (try split) <;> simp <;> omega)
                            obtain ⟨v4, w5, hrun4, hR4⟩ := hR3.app1 ⟨7, dr (nx (nx (nx (nx Y)))) m.nodes, 0, ⟨#[]⟩, false, ⟨#[]⟩⟩ (by have h1 := HL1.out; simp only [stepDrop, List.length_append, List.length_cons, List.length_nil]; (try split) <;> simp <;> omega)
                            have HRUN := Lib.hid hrun3
                            have HRUN4 := Lib.hid hrun4
                            have HR4 := Lib.hid hR4
                            clear hrun3 hR3 hrun4 hR4
                            go_wp2_with (first | (at_builtin; refine wpList_append_run rfl _ _ _ rfl rfl rfl HRUN.out ?_) | (at_builtin; refine wpList_append_run rfl _ _ _ rfl rfl rfl HRUN4.out ?_))
                            go_roundw
                            case rel =>
                              refine ⟨k + 1, by omega, by go_num, ?_⟩
                              have := HR4.out
                              simp only [stX, stL]
                              rw [HYH.out, ← List.append_assoc, HLYH.out, HX1.out]
                              simp only [stepL, HX2.out]
                              simpa using this
                            case measure => simp [intOf]; omega
                        · have dw : decide (dr (nx (nx (nx Y))) 100 < m.falls) = false := by simpa using hw
                          rw [dw]
                          have HX1 : Hid (stepX m Y = nx (nx (nx (nx Y)))) := Lib.hid (by simp only [stepX, if_neg hw])
                          have HX2 : Hid (stepFall m Y = []) := Lib.hid (by simp only [stepFall, if_neg hw])
                          go_wp2_with fail
                          go_roundw
                          case rel =>
                            refine ⟨k + 1, by omega, by go_num, ?_⟩
                            have := HRf.out
                            simp only [stX, stL]
                            rw [HYH.out, ← List.append_assoc, HLYH.out, HX1.out]
                            simp only [stepL, HX2.out]
                            simpa using this
                          case measure => simp [intOf]; omega
          · have e : ¬ (k : Int) < m.steps := by omega
            have hke : m.steps.toNat = k := by omega
            have HKE := Lib.hid hke
            clear hke
            generalize HY : stX m (nx X) k = Y at *
            generalize HLY : L0 ++ ([⟨12, dr X m.nodes, 0, ⟨#[]⟩, false, ⟨#[]⟩⟩] : List ActD) ++ stL m (-1 - i) (nx X) k = L1 at *
            have HYH := Lib.hid HY
            have HLYH := Lib.hid HLY
            clear HY HLY
            go_upto_region 20 with (fail)
            go_cut [103] (fun t wz => t = .bool (decide (dr Y 100 < m.quits)) ∧ RfP w wz bm bs m (nx Y) u5 L1)
            case first =>
              have c0 := HRk.out.mix.cell 5
              clear cm
              go_region_held3 (fun w' => w'.cell? ⟨bm, 5, none⟩ = some (.int .i64 m.quits)) (first | exact c0 | exact c1 | go_keep)
                (first
                  | (go_at_call 13
                     refine (HRk.out.next (Upd.refl Nowhere _).drew).mono ?_
                     rintro e w2 ⟨rfl, hR2⟩
                     have c1 := hR2.mix.cell 5
                     have HRz := Lib.hid hR2
                     clear hR2))
              all_goals
                go_wp2_with fail
                go_meet
                exact ⟨rfl, HRz.out⟩
            case rest =>
              obtain ⟨rfl, hR⟩ := hcut
              have HRb := Lib.hid hR
              clear hR cm
              have cm := HRb.out.mix.cell
              go_upto_if 103 with (fail)
              go_cut [5] (fun t wz => RfP w wz bm bs m (nx Y) t (L1 ++ ([⟨txEnd m Y, 0, -1 - i, ⟨#[]⟩, false, ⟨#[]⟩⟩] : List ActD)))
              case first =>
                by_cases hw : dr Y 100 < m.quits
                · have dw : decide (dr Y 100 < m.quits) = true := by simpa using hw
                  rw [dw]
                  have HA : Hid (txEnd m Y = 16) := Lib.hid (by simp only [txEnd, if_pos hw])
                  have ei : IntKind.i64.wrap (-1 - (i : Int)) = -1 - (i : Int) := IntWalk.i64_in _ (by omega)
                  obtain ⟨v3, w3, hrun3, hR3⟩ := HRb.out.app1 ⟨16, 0, -1 - i, ⟨#[]⟩, false, ⟨#[]⟩⟩ (by have h1 := HL1.out; omega)
                  have HRUN := Lib.hid hrun3
                  have HR3 := Lib.hid hR3
                  clear hrun3 hR3
                  go_wp2_with (first | (at_builtin; refine wpList_append_run rfl _ _ _ rfl rfl rfl HRUN.out ?_))
                  go_meet
                  rw [HA.out]
                  exact HR3.out
                · have dw : decide (dr Y 100 < m.quits) = false := by simpa using hw
                  rw [dw]
                  have HA : Hid (txEnd m Y = 15) := Lib.hid (by simp only [txEnd, if_neg hw])
                  have ei : IntKind.i64.wrap (-1 - (i : Int)) = -1 - (i : Int) := IntWalk.i64_in _ (by omega)
                  obtain ⟨v3, w3, hrun3, hR3⟩ := HRb.out.app1 ⟨15, 0, -1 - i, ⟨#[]⟩, false, ⟨#[]⟩⟩ (by have h1 := HL1.out; omega)
                  have HRUN := Lib.hid hrun3
                  have HR3 := Lib.hid hR3
                  clear hrun3 hR3
                  go_wp2_with (first | (at_builtin; refine wpList_append_run rfl _ _ _ rfl rfl rfl HRUN.out ?_))
                  go_meet
                  rw [HA.out]
                  exact HR3.out
              case rest =>
                have HRc := Lib.hid hcut
                clear hcut cm
                have cm := HRc.out.mix.cell
                go_wp2_with fail
                refine (HRc.out.next (Upd.refl Nowhere _)).mono ?_
                rintro e w2 ⟨rfl, hR2⟩
                have ec : IntKind.i64.wrap (1 + (pick (nx Y)).tmod 3) = 1 + (pick (nx Y)).tmod 3 := by
                  have h0 := dr_nonneg (nx Y) 3
                  have h1 := dr_lt (nx Y) (n := 3) (by decide)
                  simp only [dr] at h0 h1
                  exact IntWalk.i64_in _ (by omega)
                have HRd := Lib.hid hR2
                clear hR2 cm HRc
                obtain ⟨v3, w3, hrun3, hR3⟩ := HRd.out.app1 ⟨18, 1 + dr (nx Y) 3, 0, ⟨#[]⟩, false, ⟨#[]⟩⟩ (by have h1 := HL1.out; simp; omega)
                have HRUN := Lib.hid hrun3
                have HR3 := Lib.hid hR3
                clear hrun3 hR3
                go_wp2_with (first | (at_builtin; refine wpList_append_run rfl _ _ _ rfl rfl rfl HRUN.out ?_))
                go_roundw
                case rel =>
                  refine ⟨i + 1, by omega, by go_num, ?_⟩
                  have := HR3.out
                  rw [← HLYH.out] at this
                  simp only [acX, acL, txX, txL]
                  rw [HXH.out, HLH.out, HKE.out, HYH.out]
                  simpa using this
                case measure => simp [intOf]; omega
    · have e : ¬ (i : Int) < m.txs := by omega
      obtain rfl : i = m.txs.toNat := by omega
      obtain ⟨A, c, rfl⟩ := own_form hR.row
      have HR := Lib.hid hR
      clear hR
      go_wp2_with fail
      go_ret
      exact ⟨A, c, rfl, own_base HR.out.row _ (fun k hk => HR.out.old k (.inr (.inr hk))), HR.out.upd⟩
end Go.Proofs.YtlboobboacjnmaaDoor
