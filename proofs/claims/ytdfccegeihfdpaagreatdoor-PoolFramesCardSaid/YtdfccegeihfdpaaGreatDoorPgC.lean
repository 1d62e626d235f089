/-
  Contracts of layer 10: find, may, Room.
-/
import Derived.Test.YtdfccegeihfdpaaGreatDoorPgB
import Derived.Deep.RegionHeld3
namespace Go.Proofs.YtdfccegeihfdpaaGreatDoor
open Go Go.RowKit

def hasAt (L : Cl) (i : Nat) (key : Ky) : Bool := match L[i]? with
  | some p => p.1 == key
  | none => false
set_option maxRecDepth 100000 in
set_option maxHeartbeats 2000000 in
theorem find_ok' {w : World} {v : Value} {L : Cl} (h : CellsE w v L) (hl : L.length ≤ 1000) (lsn : Int) (key : Ky) : Calls Tryz.prog 134 #[.agg #[.int .i64 lsn, v], strV key] w fun e w' => ∃ i : Nat, e = .returned (.tuple #[.int .i64 (i : Int), .bool (hasAt L i key)]) ∧ PlaceC L key i ∧ Upd Nowhere w w' := by
  obtain ⟨A, c, rfl, hc⟩ := h.val
  have hb0 := Blk.new w 72 #[.int .i64 lsn, .slice A L.length c]
  have HU0 := Lib.hid ((Upd.refl Nowhere w).alloc (.cells #[.int .i64 lsn, .slice A L.length c] 72))
  have HB0 := Lib.hid hb0
  have H := Lib.hid h
  clear h
  obtain ⟨n, hn⟩ : ∃ n, L.length = n := ⟨_, rfl⟩
  rw [hn] at H HB0 HU0 hb0 hl hc ⊢
  have HN := Lib.hid hn
  have c0 := hb0.cell 0
  have c1 := hb0.cell 1
  simp only [List.getElem?_toArray, List.getElem?_cons_zero, List.getElem?_cons_succ] at c0 c1
  clear hb0 hn
  go_enter Tryz.func134, Tryz.ntmps134
  go_wp2_with fail
  generalize w.alloc (.cells #[.int .i64 lsn, .slice A n c] 72) = w1 at *
  clear c0 c1
  go_loopw [11] (fun s11 wr => ∃ k : Nat, s11 = .int .i64 (k : Int) ∧ k ≤ n ∧ (∀ j p, j < k → L[j]? = some p → p.1 < key) ∧ Upd Nowhere w1 wr) (fun s11 _ => n - (intOf s11).toNat)
  case atStart => exact ⟨0, rfl, by omega, fun j p hj => absurd hj (by omega), Upd.refl _ _⟩
  case round =>
    obtain ⟨k, rfl, hk, hno, hu⟩ := hrel
    by_cases hlt : k < n
    · obtain ⟨⟨kk, vh, vd⟩, hp⟩ : ∃ p, L[k]? = some p := ⟨_, List.getElem?_eq_getElem (by rw [HN.out]; exact hlt)⟩
      have hce := (H.out.up HU0.out).up hu
      have hg := hce.get hp
      rw [HN.out] at hg
      obtain ⟨b, off, c', he, hb, p0, p1, p2⟩ := hg
      cases he
      simp only at p0 p1 p2
      have hi : (k : Int) < (n : Int) := by omega
      have hne : (n : Int) ≤ 1000 := by omega
      have HU := Lib.hid (HU0.out.same hu)
      have HU1 := Lib.hid hu
      have HNO := Lib.hid hno
      have HP := Lib.hid hp
      have hq := Blk.new wr 155 #[strV kk, .bool vh, strV vd]
      have q0 := hq.cell 0
      have q1 := hq.cell 1
      have q2 := hq.cell 2
      simp only [List.getElem?_toArray, List.getElem?_cons_zero, List.getElem?_cons_succ] at q0 q1 q2
      have HUA := Lib.hid ((Upd.refl Nowhere wr).alloc (.cells #[strV kk, .bool vh, strV vd] 155))
      have HQ := Lib.hid hq
      clear hu hno hp hce hq
      go_wp2_with fail
      refine (order_ok kk vh vd key _).mono ?_
      rintro e w2 ⟨rfl, hu2⟩
      have hq2 := HQ.out.upd hu2 id
      have r0 := hq2.cell 0
      simp only [List.getElem?_toArray, List.getElem?_cons_zero] at r0
      have HU2 := Lib.hid (HUA.out.same hu2)
      have hcmp := compareBytes_lt kk key
      generalize Go.Lib.compareBytes kk key = x at *
      clear hu2 hq2 p0 p1 p2 q0 q1 q2
      by_cases hx : x < 0
      · have hkk : kk < key := hcmp ▸ hx
        have hx' : ¬ 0 ≤ x := by omega
        have HK := Lib.hid hkk
        clear hcmp hkk r0
        go_wp2_with fail
        go_roundw
        case rel =>
          refine ⟨k + 1, by go_num, by omega, fun j p hj hp => ?_, HU1.out.same HU2.out⟩
          rcases (by omega : j < k ∨ j = k) with h1 | rfl
          · exact HNO.out j p h1 hp
          · rw [HP.out] at hp; cases hp; exact HK.out
        case measure => simp [intOf]; omega
      · have hkk : ¬ kk < key := hcmp ▸ hx
        have hx' : 0 ≤ x := by omega
        have HK := Lib.hid hkk
        clear hcmp hkk
        go_wp2_with fail
        have HR := Lib.hid r0
        go_region
        all_goals
          go_wp2_with fail
          go_ret2
          refine ⟨k, ?_, ⟨by rw [HN.out]; exact Nat.le_of_lt hlt, HNO.out, fun p hp => by rw [HP.out] at hp; cases hp; exact HK.out⟩, (HU.out.same HU2.out).drew⟩
          unfold hasAt
          rw [HP.out]
          rfl
    · have e : k = n := by omega
      subst e
      have hi : ¬ (k : Int) < (k : Int) := by omega
      have c1 := HB0.out.upd hu id
      have d1 := c1.cell 1
      simp only [List.getElem?_toArray, List.getElem?_cons_zero, List.getElem?_cons_succ] at d1
      have HU := Lib.hid (HU0.out.same hu)
      have HNO := Lib.hid hno
      clear hu hno c1
      go_wp2_with fail
      go_ret2
      have hnone : L[k]? = none := List.getElem?_eq_none (by rw [HN.out]; exact Nat.le_refl _)
      refine ⟨k, ?_, ⟨by rw [HN.out]; exact Nat.le_refl _, HNO.out, fun p hp => by rw [hnone] at hp; cases hp⟩, HU.out⟩
      unfold hasAt
      rw [hnone]
      rfl

def lastK (L : Cl) (k : Nat) : Ky := match k with
  | 0 => []
  | k + 1 => match L[k]? with
    | some p => p.1
    | none => []
theorem nil_lt {k : Ky} (h : k ≠ []) : [] < k := by
  cases k with
  | nil => exact absurd rfl h
  | cons a l => exact List.nil_lt_cons a l
theorem lastK_lt {L : Cl} (hr : RisC L) (hm : ∀ c ∈ L, CellOK c) {k : Nat} {p : Ky × Vl} (hp : L[k]? = some p) : lastK L k < p.1 := by
  cases k with
  | zero => exact nil_lt (hm p (List.mem_of_getElem? hp)).ne
  | succ k =>
    obtain ⟨hk, e⟩ := List.getElem?_eq_some_iff.1 hp
    unfold lastK
    simp only
    rw [List.getElem?_eq_getElem (by omega : k < L.length)]
    have := List.pairwise_iff_getElem.1 hr k (k + 1) (by omega) hk (by omega)
    rw [e] at this
    exact this
set_option maxRecDepth 100000 in
set_option maxHeartbeats 2000000 in
theorem pmay_ok {w : World} {v : Value} {p : PgP} (h : CellsE w v p.cells) (hp : p.ok) : Calls Tryz.prog 130 #[.agg #[.int .i64 (p.lsn : Nat), v]] w fun e w' => e = .returned (.bool true) ∧ Upd Nowhere w w' := by
  obtain ⟨lsn, L⟩ := p
  obtain ⟨hl, hlen, hris, hmay⟩ := hp
  simp only at h hl hlen hris hmay ⊢
  obtain ⟨A, c, rfl, hc⟩ := h.val
  have hb0 := Blk.new w 72 #[.int .i64 (lsn : Nat), .slice A L.length c]
  have HU0 := Lib.hid ((Upd.refl Nowhere w).alloc (.cells #[.int .i64 (lsn : Nat), .slice A L.length c] 72))
  have HB0 := Lib.hid hb0
  have H := Lib.hid h
  have HR : Hid (∀ (k : Nat) (p : Ky × Vl), L[k]? = some p → lastK L k < p.1) := Lib.hid fun k p hp => lastK_lt hris hmay hp
  have HM := Lib.hid hmay
  clear h hris hmay
  obtain ⟨n, hn⟩ : ∃ n, L.length = n := ⟨_, rfl⟩
  rw [hn] at H HB0 HU0 hb0 hlen hc ⊢
  have HN := Lib.hid hn
  have c0 := hb0.cell 0
  have c1 := hb0.cell 1
  simp only [List.getElem?_toArray, List.getElem?_cons_zero, List.getElem?_cons_succ] at c0 c1
  have hlsn : (lsn : Int) ≤ 1099511627776 := by omega
  have hlen' : (n : Int) ≤ 4 := by omega
  clear hb0 hn
  go_enter Tryz.func130, Tryz.ntmps130
  go_wp2_with fail
  generalize w.alloc (.cells #[.int .i64 (lsn : Nat), .slice A n c] 72) = w1 at *
  clear c0 c1
  go_loopw [3, 9] (fun s3 s9 wr => ∃ k : Nat, s9 = .int .i64 (k : Int) ∧ k ≤ n ∧ s3 = strV (lastK L k) ∧ Upd Nowhere w1 wr) (fun _ s9 _ => n - (intOf s9).toNat)
  case atStart => exact ⟨0, rfl, by omega, rfl, Upd.refl _ _⟩
  case round =>
    obtain ⟨k, rfl, hk, rfl, hu⟩ := hrel
    by_cases hlt : k < n
    · obtain ⟨⟨kk, vh, vd⟩, hp⟩ : ∃ p, L[k]? = some p := ⟨_, List.getElem?_eq_getElem (by rw [HN.out]; exact hlt)⟩
      have hce := (H.out.up HU0.out).up hu
      have hg := hce.get hp
      rw [HN.out] at hg
      obtain ⟨b, off, c', he, hb, p0, p1, p2⟩ := hg
      cases he
      simp only at p0 p1 p2
      have hi : (k : Int) < (n : Int) := by omega
      have hlast := HR.out _ _ hp
      have hbl : Op.bytesLess kk (lastK L k) = false := by rw [_root_.Go.Proofs.bytesLess_eq]; simpa using List.le_of_lt hlast
      have hbe : (kk == lastK L k) = false := by
        rw [beq_eq_false_iff_ne]
        rintro e
        exact List.lt_irrefl _ (e ▸ hlast : lastK L k < lastK L k)
      clear hlast
      have HU := Lib.hid (HU0.out.same hu)
      have HU1 := Lib.hid hu
      have HP := Lib.hid hp
      have hq := Blk.new wr 155 #[strV kk, .bool vh, strV vd]
      have q0 := hq.cell 0
      have q1 := hq.cell 1
      have q2 := hq.cell 2
      simp only [List.getElem?_toArray, List.getElem?_cons_zero, List.getElem?_cons_succ] at q0 q1 q2
      have HUA := Lib.hid ((Upd.refl Nowhere wr).alloc (.cells #[strV kk, .bool vh, strV vd] 155))
      have HQ := Lib.hid hq
      have HOK := Lib.hid (HM.out _ (List.mem_of_getElem? hp))
      obtain ⟨lk, hlk⟩ : ∃ lk, lastK L k = lk := ⟨_, rfl⟩
      rw [hlk] at hbl hbe ⊢
      clear hu hp hce hq hlk
      go_wp2_with fail
      refine (fits_ok (kk, vh, vd) HOK.out _).mono ?_
      rintro e w2 ⟨rfl, hu2⟩
      have hq2 := HQ.out.upd hu2 id
      have r0 := hq2.cell 0
      simp only [List.getElem?_toArray, List.getElem?_cons_zero] at r0
      have HU2 := Lib.hid (HUA.out.same hu2)
      clear hu2 hq2 p0 p1 p2 q0 q1 q2
      go_wp2_with fail
      go_roundw
      case rel =>
        refine ⟨k + 1, by go_num, by omega, ?_, HU1.out.same HU2.out⟩
        unfold lastK
        simp only
        rw [HP.out]
      case measure => simp [intOf]; omega
    · have e : k = n := by omega
      subst e
      have hi : ¬ (k : Int) < (k : Int) := by omega
      have c1 := HB0.out.upd hu id
      have d0 := c1.cell 0
      have d1 := c1.cell 1
      simp only [List.getElem?_toArray, List.getElem?_cons_zero, List.getElem?_cons_succ] at d0 d1
      have HU := Lib.hid (HU0.out.same hu)
      clear hu c1
      go_wp2_with fail
      go_ret
      exact ⟨rfl, HU.out⟩
end Go.Proofs.YtdfccegeihfdpaaGreatDoor
