/-
  PoolDown: the law, walked.
-/
import Derived.Test.YtdfccegeihfdpaaGreatDoorPdB
import Derived.Deep.RegionHeld3
namespace Go.Proofs.YtdfccegeihfdpaaGreatDoor
open Go Go.RowKit

theorem bytes_list (s : ByteArray) : ∃ b : Bs, s = ⟨b.toArray⟩ := by
  obtain ⟨⟨l⟩⟩ := s
  exact ⟨l, rfl⟩
/-- What the law holds beside the pool. -/
structure DS (w : World) (bz P l d x bv : Nat) (vh : Bool) (vd : Bs) (wr : World) : Prop where
  play : ∃ q : Nat, Blk wr x 65 #[.pointer (some ⟨d, 0, none⟩), .pointer (some ⟨l, 0, none⟩), .pointer (some ⟨P, 0, none⟩), .pointer (some ⟨q, 0, none⟩)]
  val : Blk wr bv 32 #[.bool vh, strV vd]
  upd : Upd (fun k => w.heap.size ≤ k) w wr
  le : w.heap.size ≤ bz
section
variable {w wr : World} {bz P l d x bv : Nat} {vh : Bool} {vd : Bs}
theorem DS.up (h : DS w bz P l d x bv vh vd wr) {w' : World} (hu : Upd Nowhere wr w') : DS w bz P l d x bv vh vd w' := by
  obtain ⟨q, h1⟩ := h.play
  exact ⟨⟨q, h1.upd hu id⟩, h.val.upd hu id, h.upd.same hu.any, h.le⟩
theorem DS.pool (h : DS w bz P l d x bv vh vd wr) {w' : World} (hu : Upd (PoolF bz wr) wr w') : DS w bz P l d x bv vh vd w' := by
  obtain ⟨q, h1⟩ := h.play
  exact ⟨⟨q, h1.play hu⟩, h.val.upd hu (h.val.noPool rfl), h.upd.same (hu.mono fun _ _ e => Nat.le_trans h.le e.1), h.le⟩
def DSc (P l d x bv : Nat) (vh : Bool) (vd : Bs) (wr : World) : Prop := wr.cell? ⟨x, 0, none⟩ = some (.pointer (some ⟨d, 0, none⟩)) ∧ wr.cell? ⟨x, 1, none⟩ = some (.pointer (some ⟨l, 0, none⟩)) ∧ wr.cell? ⟨x, 2, none⟩ = some (.pointer (some ⟨P, 0, none⟩)) ∧ wr.cell? ⟨bv, 0, none⟩ = some (.bool vh) ∧ wr.cell? ⟨bv, 1, none⟩ = some (strV vd)
theorem DS.cells (h : DS w bz P l d x bv vh vd wr) : DSc P l d x bv vh vd wr := by
  obtain ⟨q, h1⟩ := h.play
  have a0 := h1.cell 0
  have a1 := h1.cell 1
  have a2 := h1.cell 2
  have b0 := h.val.cell 0
  have b1 := h.val.cell 1
  simp only [List.getElem?_toArray, List.getElem?_cons_zero, List.getElem?_cons_succ] at a0 a1 a2 b0 b1
  exact ⟨a0, a1, a2, b0, b1⟩
end
set_option maxRecDepth 100000 in
set_option maxHeartbeats 16000000 in
/-- Where it may not be tried the document's example alone is asked. -/
theorem down_aside {w W : World} (hW : HalfW w) (hz : 0 < w.heap.size) (hu : Upd (fun k => w.heap.size ≤ k) w W) : Calls Tryz.prog 21 #[] W fun e w' => e = .returned (.bool true) ∧ Upd (fun k => w.heap.size ≤ k) w w' := by
  have hs := hu.size
  refine (awake_ok (hW.upd hu fun e => by omega) (by omega)).mono ?_
  rintro e w' ⟨rfl, hu'⟩
  exact ⟨rfl, hu.same (hu'.mono fun _ _ e => Nat.le_trans hs e)⟩
set_option maxRecDepth 100000 in
set_option maxHeartbeats 16000000 in
theorem poolDown_in (key : Bs) (vh : Bool) (vd : Bs) (fuse : Int) {w : World} (hW : HalfW w) (hz : 0 < w.heap.size) :
    Calls Tryz.prog 8 #[strV key, .agg #[.bool vh, strV vd], .int .i64 fuse] w fun e w' => e = .returned (.bool true) ∧ Upd (fun k => w.heap.size ≤ k) w w' := by
  obtain ⟨bv, hbv⟩ : ∃ bv, w.heap.size = bv := ⟨_, rfl⟩
  obtain ⟨wA, hwA⟩ : ∃ wA, w.alloc (.cells #[.bool vh, strV vd] 32) = wA := ⟨_, rfl⟩
  have hb0 : Blk wA bv 32 #[.bool vh, strV vd] := by rw [← hwA, ← hbv]; exact Blk.new w _ _
  have hu0 : Upd Nowhere w wA := hwA ▸ (Upd.refl Nowhere w).alloc _
  have b0 := hb0.cell 0
  have b1 := hb0.cell 1
  simp only [List.getElem?_toArray, List.getElem?_cons_zero, List.getElem?_cons_succ] at b0 b1
  have HK := Lib.hid (rkey_ok key)
  have HV := Lib.hid (rval_ok vh vd)
  have HU0 := Lib.hid hu0
  have HB0 := Lib.hid hb0
  have HW := Lib.hid hW
  have HZ := Lib.hid hz
  have HAW := Lib.hid (fun W hu => down_aside (W := W) hW hz hu)
  clear hb0 hu0 hW hz
  go_enter Tryz.func8, Tryz.ntmps8
  go_upto_region 1 with (fail)
  go_cut [30] (fun t30 wz => ∃ bad, t30 = .bool bad ∧ (bad = false → keyP key = true ∧ valueP vh vd = true ∧ 0 ≤ fuse ∧ fuse ≤ 20) ∧ Upd Nowhere wA wz)
  case first =>
    cases hk : keyP key with
    | false =>
      go_wp2_with fail
      refine (HK.out _).mono ?_
      rintro e w1 ⟨rfl, rfl⟩
      rw [hk]
      go_wp2_with fail
      go_meet
      exact ⟨true, rfl, fun e => (by cases e), Upd.refl _ _⟩
    | true =>
      go_wp2_with fail
      refine (HK.out _).mono ?_
      rintro e w1 ⟨rfl, rfl⟩
      rw [hk]
      go_wp2_with fail
      refine (HV.out _).mono ?_
      rintro e w2 ⟨rfl, hu2⟩
      cases hv : valueP vh vd with
      | false =>
        go_wp2_with fail
        go_meet
        exact ⟨true, rfl, fun e => (by cases e), hu2⟩
      | true =>
        by_cases h1 : fuse < 0
        · go_wp2_with fail
          go_meet
          exact ⟨true, rfl, fun e => (by cases e), hu2⟩
        · by_cases h2 : 20 < fuse
          · go_wp2_with fail
            go_meet
            exact ⟨true, rfl, fun e => (by cases e), hu2⟩
          · go_wp2_with fail
            go_meet
            exact ⟨false, by rw [decide_eq_false (by omega), decide_eq_false (by omega)]; rfl, fun _ => ⟨hk, hv, by omega, by omega⟩, hu2⟩
  case rest =>
    obtain ⟨bad, rfl, hbad, hu1⟩ := hcut
    have HU1 := Lib.hid (HU0.out.same hu1)
    have HB1 := Lib.hid (HB0.out.upd hu1 id)
    clear hu1 HU0 HB0 b0 b1 hbv hwA HK HV
    cases bad with
    | true =>
      clear hbad
      go_wp2_with fail
      refine (HAW.out _ HU1.out.any).mono ?_
      rintro e w9 ⟨rfl, hu9⟩
      have HU9 := Lib.hid hu9
      clear hu9
      go_wp2_with fail
      go_ret
      exact ⟨rfl, HU9.out⟩
    | false =>
      obtain ⟨hkey, hval, hf0, hf20⟩ := hbad rfl
      have hok : CellOK (key, (vh, vd)) := CellOK.of hkey hval
      have HOK := Lib.hid hok
      have HF0 := Lib.hid hf0
      have HF20 := Lib.hid hf20
      have hW1 := HW.out.upd HU1.out id
      have hz1 : 0 < wc.heap.size := Nat.lt_of_lt_of_le HZ.out HU1.out.size
      have hbg := begun_ok wc hW1 hz1 1 1 (by omega) (by omega) (by omega) (by omega)
      rw [show ((1 : Nat) : Int) = 1 from rfl] at hbg
      have HBG := Lib.hid hbg
      have HW1 := Lib.hid hW1
      clear hbad hkey hval hf0 hf20 hok hW1 hz1 hbg
      go_wp2_with fail
      refine HBG.out.mono ?_
      rintro e w3 ⟨x, rfl, hbeg⟩
      obtain ⟨P, l, q, d, p, fm, hx3, h3⟩ := begD HW1.out hbeg
      obtain ⟨bz, hbz⟩ : ∃ bz, wc.heap.size = bz := ⟨_, rfl⟩
      rw [hbz] at h3
      have hs3 : DS w bz P l d x bv vh vd w3 := ⟨⟨q, hx3⟩, HB1.out.upd hbeg.upd id, (HU1.out.same hbeg.upd).any, by rw [← hbz]; exact HU1.out.size⟩
      have a2 : w3.cell? ⟨x, 2, none⟩ = some (.pointer (some ⟨P, 0, none⟩)) := hs3.cells.2.2.1
      have HS3 := Lib.hid hs3
      have HFE := Lib.hid (fetchD h3)
      clear hbeg hx3 h3 hs3 hbz HBG HW1 HB1 HU1
      go_wp2_with fail
      refine HFE.out.mono ?_
      rintro e w4 ⟨p4, b4, rfl, h4, hu4⟩
      have hs4 := HS3.out.pool hu4
      have HS := Lib.hid hs4
      have dd : w4.cell? ⟨x, 0, none⟩ = some (.pointer (some ⟨d, 0, none⟩)) ∧ w4.cell? ⟨x, 1, none⟩ = some (.pointer (some ⟨l, 0, none⟩)) ∧ w4.cell? ⟨x, 2, none⟩ = some (.pointer (some ⟨P, 0, none⟩)) ∧ w4.cell? ⟨bv, 0, none⟩ = some (.bool vh) ∧ w4.cell? ⟨bv, 1, none⟩ = some (strV vd) := hs4.cells
      have d2 : w4.drew.cell? ⟨x, 0, none⟩ = some (.pointer (some ⟨d, 0, none⟩)) ∧ w4.drew.cell? ⟨x, 1, none⟩ = some (.pointer (some ⟨l, 0, none⟩)) ∧ w4.drew.cell? ⟨x, 2, none⟩ = some (.pointer (some ⟨P, 0, none⟩)) ∧ w4.drew.cell? ⟨bv, 0, none⟩ = some (.bool vh) ∧ w4.drew.cell? ⟨bv, 1, none⟩ = some (strV vd) := (hs4.up (Upd.refl Nowhere w4).drew).cells
      have hap := appendD (h4.up (Upd.refl Nowhere w4).drew) key vh vd HOK.out
      unfold updA at hap
      have HAP := Lib.hid hap
      clear hu4 h4 hs4 hap a2 HS3 HFE
      go_wp2_with fail
      go_cut [8, 9] (fun t8 t9 wz => t8 = .int .i64 1 ∧ t9 = .int .i64 0 ∧ PSt bz P l d 0 1 1 5 wz p4 ((pLog 1).add (updP key vh vd).bytes) ⟨1, 1, 1, fm, [(fr1, b4)]⟩ (fun _ => (pg0, 0)) ∧ DS w bz P l d x bv vh vd wz)
      case first =>
        go_region_held3 (fun w' => w'.cell? ⟨x, 0, none⟩ = some (.pointer (some ⟨d, 0, none⟩)) ∧ w'.cell? ⟨x, 1, none⟩ = some (.pointer (some ⟨l, 0, none⟩)) ∧ w'.cell? ⟨x, 2, none⟩ = some (.pointer (some ⟨P, 0, none⟩)) ∧ w'.cell? ⟨bv, 0, none⟩ = some (.bool vh) ∧ w'.cell? ⟨bv, 1, none⟩ = some (strV vd)) (first | with_reducible exact dd | with_reducible exact d2 | with_reducible exact k2)
          (first
            | (go_at_call 24
               refine HAP.out.mono ?_
               rintro e w5 ⟨rfl, h5, hu5⟩
               have hs5 := (HS.out.up (Upd.refl Nowhere w4).drew).pool hu5
               have k2 : w5.cell? ⟨x, 0, none⟩ = some (.pointer (some ⟨d, 0, none⟩)) ∧ w5.cell? ⟨x, 1, none⟩ = some (.pointer (some ⟨l, 0, none⟩)) ∧ w5.cell? ⟨x, 2, none⟩ = some (.pointer (some ⟨P, 0, none⟩)) ∧ w5.cell? ⟨bv, 0, none⟩ = some (.bool vh) ∧ w5.cell? ⟨bv, 1, none⟩ = some (strV vd) := hs5.cells
               have H5 := Lib.hid h5
               have HS5 := Lib.hid hs5
               clear h5 hu5 hs5))
        all_goals
          go_wp2_with fail
          go_meet
          exact ⟨rfl, rfl, H5.out, HS5.out⟩
      case rest =>
        obtain ⟨rfl, rfl, h5, hs5⟩ := hcut
        clear dd d2 HAP HS
        rename_i wb _ _ _ _ _ _ _ _
        have HS := Lib.hid hs5
        have dd : wc.cell? ⟨x, 0, none⟩ = some (.pointer (some ⟨d, 0, none⟩)) ∧ wc.cell? ⟨x, 1, none⟩ = some (.pointer (some ⟨l, 0, none⟩)) ∧ wc.cell? ⟨x, 2, none⟩ = some (.pointer (some ⟨P, 0, none⟩)) ∧ wc.cell? ⟨bv, 0, none⟩ = some (.bool vh) ∧ wc.cell? ⟨bv, 1, none⟩ = some (strV vd) := hs5.cells
        have d2 : wc.drew.cell? ⟨x, 0, none⟩ = some (.pointer (some ⟨d, 0, none⟩)) ∧ wc.drew.cell? ⟨x, 1, none⟩ = some (.pointer (some ⟨l, 0, none⟩)) ∧ wc.drew.cell? ⟨x, 2, none⟩ = some (.pointer (some ⟨P, 0, none⟩)) ∧ wc.drew.cell? ⟨bv, 0, none⟩ = some (.bool vh) ∧ wc.drew.cell? ⟨bv, 1, none⟩ = some (strV vd) := (hs5.up (Upd.refl Nowhere wc).drew).cells
        have HCH := Lib.hid (changeD key vh vd rfl (h5.up (Upd.refl Nowhere wc).drew) HOK.out)
        clear h5 hs5
        go_wp2_with fail
        go_cut [62] (fun t62 wz => t62 = .bool false ∧ PSt bz P l d 0 1 1 5 wz p4 ((pLog 1).add (updP key vh vd).bytes) ⟨1, 1, 1, fm, [(fr2 key vh vd, b4)]⟩ (fun _ => (pg0, 0)) ∧ DS w bz P l d x bv vh vd wz)
        case first =>
          go_region_held3 (fun w' => w'.cell? ⟨x, 0, none⟩ = some (.pointer (some ⟨d, 0, none⟩)) ∧ w'.cell? ⟨x, 1, none⟩ = some (.pointer (some ⟨l, 0, none⟩)) ∧ w'.cell? ⟨x, 2, none⟩ = some (.pointer (some ⟨P, 0, none⟩)) ∧ w'.cell? ⟨bv, 0, none⟩ = some (.bool vh) ∧ w'.cell? ⟨bv, 1, none⟩ = some (strV vd)) (first | with_reducible exact dd | with_reducible exact d2 | with_reducible exact k2)
            (first
              | (go_at_call 25
                 refine HCH.out.mono ?_
                 rintro e w5 ⟨rfl, h5, hu5⟩
                 have hs5 := (HS.out.up (Upd.refl Nowhere wc).drew).pool hu5
                 have k2 : w5.cell? ⟨x, 0, none⟩ = some (.pointer (some ⟨d, 0, none⟩)) ∧ w5.cell? ⟨x, 1, none⟩ = some (.pointer (some ⟨l, 0, none⟩)) ∧ w5.cell? ⟨x, 2, none⟩ = some (.pointer (some ⟨P, 0, none⟩)) ∧ w5.cell? ⟨bv, 0, none⟩ = some (.bool vh) ∧ w5.cell? ⟨bv, 1, none⟩ = some (strV vd) := hs5.cells
                 have H5 := Lib.hid h5
                 have HS5 := Lib.hid hs5
                 clear h5 hu5 hs5))
          all_goals
            go_wp2_with fail
            go_meet
            exact ⟨rfl, H5.out, HS5.out⟩
        case rest =>
          obtain ⟨rfl, h6, hs6⟩ := hcut
          clear dd d2 HCH HS
          have HS6 := Lib.hid hs6
          have dd : wc.cell? ⟨x, 0, none⟩ = some (.pointer (some ⟨d, 0, none⟩)) ∧ wc.cell? ⟨x, 1, none⟩ = some (.pointer (some ⟨l, 0, none⟩)) ∧ wc.cell? ⟨x, 2, none⟩ = some (.pointer (some ⟨P, 0, none⟩)) ∧ wc.cell? ⟨bv, 0, none⟩ = some (.bool vh) ∧ wc.cell? ⟨bv, 1, none⟩ = some (strV vd) := hs6.cells
          obtain ⟨x0, x1, x2, _, _⟩ := dd
          have HFU := Lib.hid (fuseD h6 fuse HF0.out)
          have HPG : Hid ((fr2 key vh vd).pg.ok) := Lib.hid (h6.inv.fr _ (List.mem_singleton.2 rfl)).2.2.1
          have HPD := Lib.hid h6.pd
          clear h6 hs6
          go_wp2_with fail
          refine HFU.out.mono ?_
          rintro e w7 ⟨rfl, hA7, hW7, hu7⟩
          have hs7 := HS6.out.pool hu7
          obtain ⟨y0, y1, y2, _, _⟩ := hs7.cells
          have HS7 := Lib.hid hs7
          have HFL := Lib.hid (flushD key vh vd fuse HF0.out HF20.out (by have := updP_len HOK.out; omega : (updP key vh vd).bytes.length ≤ 200) HPD.out hA7 hW7 HPG.out)
          clear hA7 hW7 hu7 hs7 HFU x0 x1 x2 HS6
          go_wp2_with fail
          refine HFL.out.mono ?_
          rintro e w8 ⟨y, p8, S8, T8, x8, b8, q8, t8, s8, rfl, hF8, hu8⟩
          have hs8 := HS7.out.pool hu8
          clear y0 y1 y2
          obtain ⟨y0, y1, y2, _, _⟩ := hs8.cells
          have HS8 := Lib.hid hs8
          have HF8 := Lib.hid hF8
          have HFR := Lib.hid (framesD hF8)
          clear hF8 hu8 hs8 HFL HS7
          go_wp2_with fail
          refine HFR.out.mono ?_
          rintro e w9 ⟨g9, off9, cc9, rfl, hrc, hg9, hu9⟩
          have hs9 := HS8.out.up hu9
          clear y0 y1 y2
          obtain ⟨y0, y1, y2, _, _⟩ := hs9.cells
          have HU9 := Lib.hid hu9
          have HS9 := Lib.hid hs9
          have HDN := Lib.hid (downD HF8.out hu9)
          have HCR := Lib.hid (crashD HF8.out hu9)
          have hcode := HF8.out.code
          clear hu9 hs9 HFR HS8
          rcases hcode with ⟨h4, rfl, hr, hd, hq⟩ | ⟨h4, rfl, hr, hd, hq⟩
          · have hr' : ¬ (x8.rc : Int) = 0 := by omega
            have hr2 : ((x8.rc : Int) == 0) = false := by simpa using hr'
            have h4' : ¬ 4 ≤ fuse := by omega
            have h42 : decide (4 ≤ fuse) = false := decide_eq_false h4'
            rw [hd] at HDN
            clear hr hd
            go_wp2_with (refine HDN.out.mono ?_; rintro e w10 ⟨rfl, hw10⟩; obtain rfl : w9 = w10 := hw10.symm)
            refine HCR.out.mono ?_
            rintro e w11 ⟨p11, rfl, hD11, hu11⟩
            have HLD := Lib.hid (loadD HF8.out hD11)
            have HU11 := Lib.hid hu11
            clear hD11 hu11 HCR HDN
            go_wp2_with fail
            refine HLD.out.mono ?_
            rintro e w12 ⟨A12, c12, rfl, hu12⟩
            have hqi : (q8.lsn : Int) = 0 := by omega
            rw [hqi]
            have hbp := Blk.new w12 72 #[.int .i64 0, .slice A12 q8.cells.length c12]
            have v0 := hbp.cell 0
            simp only [List.getElem?_toArray, List.getElem?_cons_zero] at v0
            have HU12 : Hid (Upd (fun k => w.heap.size ≤ k) w (w12.alloc (.cells #[.int .i64 0, .slice A12 q8.cells.length c12] 72))) := Lib.hid (((HS9.out.upd.same HU11.out.any).same hu12.any).alloc _)
            clear hu12 hbp hq hqi hrc HLD
            go_wp2_with fail
            refine (HAW.out _ HU12.out).mono ?_
            rintro e w13 ⟨rfl, hu13⟩
            have HU13 := Lib.hid hu13
            clear hu13
            go_wp2_with fail
            go_ret
            exact ⟨rfl, HU13.out⟩
          · have hr' : (x8.rc : Int) = 0 := by omega
            rw [hr'] at hrc
            rw [hd] at HDN
            clear hr hd hr'
            go_wp2_with (refine HDN.out.mono ?_; rintro e w10 ⟨rfl, hw10⟩; obtain rfl : w9 = w10 := hw10.symm)
            refine HCR.out.mono ?_
            rintro e w11 ⟨p11, rfl, hD11, hu11⟩
            have HLD := Lib.hid (loadD HF8.out hD11)
            have HU11 := Lib.hid hu11
            clear hD11 hu11 HCR HDN
            go_wp2_with fail
            refine HLD.out.mono ?_
            rintro e w12 ⟨A12, c12, rfl, hu12⟩
            have hqi : (q8.lsn : Int) = 1 := by omega
            rw [hqi]
            have hbp := Blk.new w12 72 #[.int .i64 1, .slice A12 q8.cells.length c12]
            have v0 := hbp.cell 0
            simp only [List.getElem?_toArray, List.getElem?_cons_zero] at v0
            have HU12 : Hid (Upd (fun k => w.heap.size ≤ k) w (w12.alloc (.cells #[.int .i64 1, .slice A12 q8.cells.length c12] 72))) := Lib.hid (((HS9.out.upd.same HU11.out.any).same hu12.any).alloc _)
            clear hu12 hbp hq hqi hrc HLD
            go_wp2_with fail
            refine (HAW.out _ HU12.out).mono ?_
            rintro e w13 ⟨rfl, hu13⟩
            have HU13 := Lib.hid hu13
            clear hu13
            go_wp2_with fail
            go_ret
            exact ⟨rfl, HU13.out⟩
end Go.Proofs.YtdfccegeihfdpaaGreatDoor
