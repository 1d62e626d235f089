/-
  The walk of NetOrder.
-/
import Derived.Test.YtnlidhclieipiaaNetG
import Derived.Test.YtnlidhclieipiaaOpenP
namespace Go.Proofs.Ytnlidhclieipiaa
open Go Go.RowKit

/-- The parcels alone. -/
def pcls (L : Pcls) : List Pcl := L.map (·.1)

/-- The net holds the parcels M, all of it lies in new memory. -/
def OrderRel (w : World) (bn c : Nat) (M : List Pcl) (wr : World) : Prop := Below w.heap.size w wr ∧ ∃ K, NetP wr bn c K 0 ∧ pcls K = M

theorem rows_at {α : Type} {W : World} {size : Nat} {E : List Value → α → Prop} {A : Option Addr} {n c : Nat} {L : List α} (h : RowsAt W size E (.slice A n c) L) {k : Nat} (hk : k < L.length) :
    n = L.length ∧ ∃ b off x cs, A = some ⟨b, off, none⟩ ∧ b < W.heap.size ∧ L[k]? = some x ∧ cs.length = size ∧ E cs x ∧ ∀ j u, cs[j]? = some u → W.cell? ⟨b, off + k * size + j, none⟩ = some u := by
  obtain ⟨A', c', e, h1, h2, h3⟩ := h
  injection e with e1 e2 e3
  subst e1 e2 e3
  obtain ⟨b, off, rfl, hb, h4⟩ := h3 (by omega)
  obtain ⟨cs, h5, h6, h7⟩ := h4 k L[k] (List.getElem?_eq_getElem hk)
  exact ⟨rfl, b, off, L[k], cs, rfl, hb, List.getElem?_eq_getElem hk, h5, h6, h7⟩

set_option maxHeartbeats 4000000 in
set_option maxRecDepth 100000 in
theorem netOrder_walk (A : Option Addr) (ca : Nat) (L : Pcls) (w : World) (h : RowsAt w 4 (PclAt w) (.slice A L.length ca) L) :
    Calls Try.prog 3 #[.slice A L.length ca] w fun e w' => e = .returned (.bool true) ∧ Below w.heap.size w w' := by
  have HA := Lib.hid h
  clear h
  by_cases hlong : 100 < L.length
  · go_enter Try.func3, Try.ntmps3
    go_wp2_with fail
    refine (awake_ok _).mono ?_
    rintro e w1 ⟨rfl, hb⟩
    go_wp2
    go_ret
    exact ⟨rfl, hb⟩
  · have d1 : decide (100 < (L.length : Int)) = false := by simp; omega
    go_enter Try.func3, Try.ntmps3
    go_wp2_with fail
    refine (new_ok _).mono ?_
    rintro e w1 ⟨rfl, hw1⟩
    have hn1 : NetP w1 (w.heap.size + 1) w.heap.size [] 0 := by rw [hw1]; exact NetP.new w
    have hb1 : Below w.heap.size w w1 := by rw [hw1]; exact ((Below.refl _ _).alloc (Nat.le_refl _) _).alloc (by simp) _
    have HR := Lib.hid (show OrderRel w (w.heap.size + 1) w.heap.size [] w1 from ⟨hb1, [], hn1, rfl⟩)
    clear hn1 hb1 hw1
    go_wp2_with fail
    go_loopw [4] (fun t wr => ∃ k : Nat, k ≤ L.length ∧ t = .int .i64 k ∧ OrderRel w (w.heap.size + 1) w.heap.size (pcls (L.take k)) wr) (fun t _ => L.length - (intOf t).toNat)
    case atStart => exact ⟨0, Nat.zero_le _, rfl, HR.out⟩
    case round =>
      clear HR
      obtain ⟨k, hk, rfl, hrel⟩ := hrel
      have HR := Lib.hid hrel
      obtain ⟨hbel, K, hn, hK⟩ := hrel
      have HN := Lib.hid hn
      have HK := Lib.hid hK
      have hsz := hbel.size
      have HBel := Lib.hid hbel
      clear hbel hn hK
      by_cases hlt : k < L.length
      · obtain ⟨_, b, off, x, cs, rfl, hb, hx, _, ⟨hcs, hrd, hmx⟩, hcell⟩ := rows_at HA.out hlt
        obtain ⟨A2, c2, hv, _⟩ := hrd.val
        subst hcs
        have HX := Lib.hid hx
        have HRd := Lib.hid (hrd.below HBel.out)
        have g0 := (HBel.out.cell (p := ⟨b, off + k * 4, none⟩) hb).trans (hcell 0 _ rfl)
        have g1 := (HBel.out.cell (p := ⟨b, off + k * 4 + 1, none⟩) hb).trans (hcell 1 _ rfl)
        have g2 := (HBel.out.cell (p := ⟨b, off + k * 4 + 2, none⟩) hb).trans (hcell 2 _ rfl)
        have g3 := (HBel.out.cell (p := ⟨b, off + k * 4 + 3, none⟩) hb).trans (hcell 3 _ rfl)
        rw [hv] at g2
        have HV := Lib.hid hv
        clear hx hcell hrd hv
        unfold maxLen at hmx
        by_cases h500 : 500 < x.1.body.length
        · go_wp2_with fail
          refine (awake_ok _).mono ?_
          rintro e w2 ⟨rfl, hb2⟩
          have HB2 := Lib.hid (HBel.out.trans (hb2.mono hsz))
          clear hb2
          go_wp2
          go_ret
          exact ⟨rfl, HB2.out⟩
        · go_wp2_with fail
          refine (copy_ok _ _ _ _ _ _ _ (HV.out ▸ HRd.out) (bytesV_one _) (by omega)).mono ?_
          rintro e w2 ⟨v2, rfl, ho2, hu2⟩
          have HN2 := Lib.hid (HN.out.upd hu2 fun _ _ => id)
          have HB2 := Lib.hid (Upd.onto HBel.out hu2 (fun _ h => h.elim) hsz)
          have HRd2 := Lib.hid (Reads.of_own ho2)
          have hsz2 := HB2.out.size
          have hlK : K.length < 256 := by
            have := congrArg List.length HK.out
            simp [pcls] at this
            omega
          clear ho2 hu2 HN HBel HR g0 g1 g2 g3
          go_wp2_with fail
          refine (send_okP _ _ K 0 x.1 v2 _ HN2.out HRd2.out (by omega) hlK).mono ?_
          rintro e w3 ⟨v3, rfl, hn3, _, hu3⟩
          have HS := Lib.hid (show OrderRel w (w.heap.size + 1) w.heap.size (pcls (L.take (k + 1))) w3 from
            ⟨Upd.onto HB2.out hu3 (fun k hk => Nat.le_of_eq hk.symm) hsz2, _, hn3, by
              have h1 := HK.out
              rw [List.take_add_one, HX.out]
              simp only [pcls, List.map_append, List.map_cons, List.map_nil, Option.toList_some] at h1 ⊢
              rw [h1]⟩)
          clear hn3 hu3 HN2 HB2 HRd2 HK
          go_wp2
          go_roundw
          case rel => exact ⟨k + 1, by omega, by go_num, HS.out⟩
          case measure => simp [intOf]; omega
      · obtain rfl : k = L.length := by omega
        rw [List.take_length] at HR
        have HR0 := Lib.hid (show OrderRel w (w.heap.size + 1) w.heap.size (pcls (L.drop 0)) wr from HR.out)
        clear HR HN HK HBel
        go_wp2
        obtain ⟨wo, rfl⟩ : ∃ wo : World, wo = wr := ⟨_, rfl⟩
        go_loopw [5] (fun t wr => ∃ k : Nat, k ≤ L.length ∧ t = .int .i64 k ∧ OrderRel w (w.heap.size + 1) w.heap.size (pcls (L.drop k)) wr) (fun t _ => L.length - (intOf t).toNat)
        case atStart => exact ⟨0, Nat.zero_le _, rfl, HR0.out⟩
        case round =>
          clear HR0
          obtain ⟨k, hk, rfl, hrel⟩ := hrel
          obtain ⟨hbel, K, hn, hK⟩ := hrel
          have HN := Lib.hid hn
          have HK := Lib.hid hK
          have hsz := hbel.size
          have HBel := Lib.hid hbel
          clear hbel hn hK
          by_cases hlt : k < L.length
          · obtain ⟨_, b, off, x, cs, rfl, hb, hx, _, ⟨hcs, hrd, hmx⟩, hcell⟩ := rows_at HA.out hlt
            obtain ⟨A2, c2, hv, _⟩ := hrd.val
            subst hcs
            have hdrop : L.drop k = x :: L.drop (k + 1) := by
              obtain ⟨h1, h2⟩ := List.getElem?_eq_some_iff.1 hx
              rw [List.drop_eq_getElem_cons h1, h2]
            obtain ⟨y, K', rfl, hy, hK'⟩ : ∃ y K', K = y :: K' ∧ y.1 = x.1 ∧ pcls K' = pcls (L.drop (k + 1)) := by
              have h1 := HK.out
              rw [hdrop] at h1
              match K, h1 with
              | y :: K', h1 =>
                simp only [pcls, List.map_cons, List.cons.injEq] at h1
                exact ⟨y, K', rfl, h1.1, h1.2⟩
            have HY := Lib.hid hy
            have HK' := Lib.hid hK'
            clear hy hK' hdrop HK
            go_wp2_with fail
            refine (take_ok _ _ _ 0 0 y _ HN.out rfl).mono ?_
            rintro e w2 ⟨rfl, hn2, ho2, hu2⟩
            have HB2 := Lib.hid (Upd.onto HBel.out hu2 (fun k hk => Nat.le_of_eq hk.symm) hsz)
            have hsz2 := HB2.out.size
            obtain ⟨A3, c3, hv3⟩ := own_form ho2
            have g0 := (HB2.out.cell (p := ⟨b, off + k * 4, none⟩) hb).trans (hcell 0 _ rfl)
            have g1 := (HB2.out.cell (p := ⟨b, off + k * 4 + 1, none⟩) hb).trans (hcell 1 _ rfl)
            have g2 := (HB2.out.cell (p := ⟨b, off + k * 4 + 2, none⟩) hb).trans (hcell 2 _ rfl)
            have g3 := (HB2.out.cell (p := ⟨b, off + k * 4 + 3, none⟩) hb).trans (hcell 3 _ rfl)
            rw [hv] at g2
            have hr1 := Reads.of_own ho2
            have hr2 := hrd.below HB2.out
            rw [hv3] at hr1
            rw [hv] at hr2
            unfold Pcl.val Pcl.cells
            rw [hv3, HY.out]
            rw [HY.out] at hr1
            have HR1 := Lib.hid hr1
            have HR2 := Lib.hid hr2
            have HN2 := Lib.hid hn2
            have hlt2 : b < w2.heap.size := by omega
            have hsm : x.1.body.length ≤ 4096 := HY.out ▸ HN.out.small y (by simp)
            unfold maxLen at hmx
            clear hx hcell hrd hv hn2 ho2 hu2 hv3 hr1 hr2 HBel HN
            go_upto_region 15 with (fail)
            refine wp_region_tail 8 (by kernel_rfl) (by kernel_rfl) ?_
            simp only [List.take_succ_cons, List.take_zero, List.drop_succ_cons, List.drop_zero]
            repeat still_step
            refine wpStill_nil ?_
            go_wp2_with fail
            refine (same20 _ _ _ _ _ _ _ _ x.1.body x.1.body _ ((HR1.out.alloc _).drew) ((HR2.out.alloc _).drew) (by omega)).mono ?_
            rintro e w3 ⟨rfl, hu3⟩
            rw [show (Pcl.same ⟨x.1.frm, x.1.dst, x.1.body, x.1.spoilt⟩ ⟨x.1.frm, x.1.dst, x.1.body, x.1.spoilt⟩) = true from Pcl.same_refl _]
            have HS := Lib.hid (show OrderRel w (w.heap.size + 1) w.heap.size (pcls (L.drop (k + 1))) w3 from
              ⟨Upd.onto (HB2.out.alloc hsz2 _).drew hu3 (fun _ h => h.elim) (by simp; omega), _, (HN2.out.upd (((Upd.refl Nowhere w2).alloc _).drew.trans hu3 fun _ _ => id) fun _ _ => id), HK'.out⟩)
            clear hu3 HN2 HB2 HR1 HR2 HK' g0 g1 g2 g3
            go_wp2
            go_roundw
            case rel => exact ⟨k + 1, by omega, by go_num, HS.out⟩
            case measure => simp [intOf]; omega
          · have hk0 : K = [] := by
              have h1 := HK.out
              rw [List.drop_of_length_le (by omega)] at h1
              simpa [pcls] using h1
            subst hk0
            go_wp2_with fail
            refine (len_okP HN.out).mono ?_
            rintro e w2 ⟨rfl, rfl⟩
            rw [List.length_nil]
            go_wp2_with fail
            refine (lost_okP HN.out).mono ?_
            rintro e w2 ⟨rfl, rfl⟩
            go_wp2_with fail
            refine (awake_ok _).mono ?_
            rintro e w2 ⟨rfl, hb2⟩
            have HB2 := Lib.hid (HBel.out.trans (hb2.mono hsz))
            clear hb2
            go_wp2
            go_ret
            exact ⟨rfl, HB2.out⟩
end Go.Proofs.Ytnlidhclieipiaa
