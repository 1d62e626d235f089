/-
  Contracts of layer 12: Page, Change.
-/
import Derived.Test.YtdfccegeihfdpaaGreatDoorPgJ
namespace Go.Proofs.YtdfccegeihfdpaaGreatDoor
open Go Go.RowKit

section
variable {w : World} {bz P l : Nat} {p : DkP} {S : LogS} {T : PoS}
def PagP (T : PoS) (n : Int) (w : World) (e : Ending) (w' : World) : Prop :=
  (∀ x, pinS T n = .error x → e = .returned (.tuple #[.agg #[.int .i64 0, .slice none 0 0], .int .i64 x])) ∧
  (∀ q, pinS T n = .ok q → ∃ A c, e = .returned (.tuple #[.agg #[.int .i64 (q.1.lsn : Nat), .slice A q.1.cells.length c], .int .i64 0]) ∧ OwnC w.heap.size w' (.slice A q.1.cells.length c) q.1.cells) ∧ Upd Nowhere w w'
set_option maxRecDepth 100000 in
set_option maxHeartbeats 2000000 in
theorem ppage_ok (h : PoolAt bz w P p l S T) (hB : PoB T) (n : Int) : Calls Tryz.prog 27 #[.pointer (some ⟨P, 0, none⟩), .int .i64 n] w (PagP T n w) := by
  have hua := (Upd.refl Nowhere w).alloc (.cells #[.int .i64 0, .slice none 0 0] 72)
  have HPN := Lib.hid (pinned_ok (h.up hua) n)
  have HB0 := Lib.hid (Blk.new w 72 #[.int .i64 0, .slice none 0 0])
  have HU := Lib.hid hua
  have hPlt : P < w.heap.size := h.blk.lt
  cases hp : pinS T n with
  | error x =>
    have hx := pin_err hp
    have hxb : (x == 0) = false := by rcases hx with rfl | rfl <;> rfl
    have HP := Lib.hid hp
    rw [hp, pinV_err] at HPN
    have f0 := HB0.out.frozen 0
    have f1 := HB0.out.frozen 1
    have g0 := HB0.out.cell 0
    have g1 := HB0.out.cell 1
    simp only [List.getElem?_toArray, List.getElem?_cons_zero, List.getElem?_cons_succ] at g0 g1
    have HUF := Lib.hid hua
    clear h hx hp hB hua
    go_enter Tryz.func27, Tryz.ntmps27
    go_wp2_with fail
    refine HPN.out.mono ?_
    rintro e w1 ⟨rfl, rfl⟩
    go_wp2_with fail
    refine bodyPost_ret (v := .tuple #[.agg #[.int .i64 0, .slice none 0 0], .int .i64 x]) (by simp [results, Tryz.results27, go_sem, g0, g1]) rfl ⟨fun y hy => ?_, fun q hq => ?_, HUF.out⟩
    · rw [HP.out] at hy; cases hy; rfl
    · rw [HP.out] at hq; cases hq
  | ok q =>
    obtain ⟨hq, hno, hpins, _⟩ := pinS_ok hp
    have HP := Lib.hid hp
    obtain ⟨x, b⟩ := q
    have hok := (hB.fr _ hq).2.2.2
    have hb := ((h.up hua).fr _ hq)
    obtain ⟨A, c, f0, f1, f2, f3, f4, f5, f6, fz, hce⟩ := hb.cells
    simp only at f4 f5 hce hok
    rw [hp, pinV_ok] at HPN
    have hl4 : x.cells.length ≤ 4 := hok.len
    have HOW := Lib.hid (own_ok hce (by omega) (x.lsn : Nat))
    clear h hp hq hok hb hpins f0 f1 f2 f3 f6 fz hce hB hno hua
    go_enter Tryz.func27, Tryz.ntmps27
    go_wp2_with fail
    refine HPN.out.mono ?_
    rintro e w1 ⟨rfl, rfl⟩
    go_wp2_with fail
    refine HOW.out.mono ?_
    rintro e w2 ⟨A2, c2, rfl, hO2, hu2⟩
    have hb2 := HB0.out.upd hu2 id
    have q0 := hb2.frozen 0
    have q1 := hb2.frozen 1
    have g0 := hb2.cell 0
    have g1 := hb2.cell 1
    have hbz := (hb2.set_ 0 (.int .i64 (x.lsn : Nat))).set_ 1 (.slice A2 x.cells.length c2)
    have s0 := hbz.cell 0
    have s1 := hbz.cell 1
    simp only [List.getElem?_toArray, List.getElem?_cons_zero, List.getElem?_cons_succ, List.setIfInBounds_toArray, List.set_cons_succ, List.set_cons_zero] at g0 g1 s0 s1
    have HNW : Hid (∀ k, (Value.slice A2 x.cells.length c2).ownBlock = some k → w.heap.size < k) := Lib.hid fun k hk => by have := hO2.new k hk; simp at this; omega
    have HOF := Lib.hid (((hO2.far (B' := w.heap.size) fun k hk => Nat.le_of_lt (HNW.out k hk)).upd (Upd.one _ w.heap.size 0 (.int .i64 (x.lsn : Nat))) fun k hk e => by have := HNW.out k hk; omega).upd (Upd.one _ w.heap.size 1 (.slice A2 x.cells.length c2)) fun k hk e => by have := HNW.out k hk; omega)
    have HUF := Lib.hid (((HU.out.same hu2).setCell (p := ⟨w.heap.size, 0, none⟩) (fun h => by simp only at h; omega) (.int .i64 (x.lsn : Nat))).setCell (p := ⟨w.heap.size, 1, none⟩) (fun h => by simp only at h; omega) (.slice A2 x.cells.length c2))
    clear hb2 hbz hO2 hu2 f4 f5
    go_wp2_with fail
    refine bodyPost_ret (v := .tuple #[.agg #[.int .i64 (x.lsn : Nat), .slice A2 x.cells.length c2], .int .i64 0]) (by simp [results, Tryz.results27, go_sem, s0, s1]) rfl ⟨fun y hy => ?_, fun q hq => ?_, HUF.out⟩
    · rw [HP.out] at hy; cases hy
    · rw [HP.out] at hq; cases hq; exact ⟨A2, c2, rfl, HOF.out⟩
def changeS (T : PoS) (n : Int) (lsn : Nat) (key : Ky) (v : Vl) : PoS × Int := match pinS T n with
  | .error e => (T, e)
  | .ok q => if roomB q.1.cells key then ({ T with L := updF T.L { q.1 with lsn := lsn, cells := setC q.1.cells key v, rc := if q.1.rc = 0 then lsn else q.1.rc } }, 0) else (T, 100)
theorem pset_t {w : World} {v : Value} {q : PgP} (h : CellsE w v q.cells) (hp : q.ok) (lsn : Nat) (h1 : 1 ≤ lsn ∧ lsn ≤ 1099511627776) (key : Ky) (vh : Bool) (vd : Bs) (hc : CellOK (key, (vh, vd))) (hr : roomB q.cells key = true) : Calls Tryz.prog 81 #[.agg #[.int .i64 (q.lsn : Nat), v], .int .i64 (lsn : Nat), strV key, .agg #[.bool vh, strV vd]] w fun e w' => ∃ A c, e = .returned (.tuple #[.agg #[.int .i64 (lsn : Nat), .slice A (setC q.cells key (vh, vd)).length c], .int .i64 0]) ∧ OwnC w.heap.size w' (.slice A (setC q.cells key (vh, vd)).length c) (setC q.cells key (vh, vd)) ∧ Upd Nowhere w w' := by
  refine (pset_ok h hp lsn h1.1 h1.2 key vh vd hc).mono ?_
  rintro e w' ⟨a, _, b⟩
  obtain ⟨A, c, h3, h4⟩ := a hr
  exact ⟨A, c, h3, h4, b⟩
theorem pset_f {w : World} {v : Value} {q : PgP} (h : CellsE w v q.cells) (hp : q.ok) (lsn : Nat) (h1 : 1 ≤ lsn ∧ lsn ≤ 1099511627776) (key : Ky) (vh : Bool) (vd : Bs) (hc : CellOK (key, (vh, vd))) (hr : roomB q.cells key = false) : Calls Tryz.prog 81 #[.agg #[.int .i64 (q.lsn : Nat), v], .int .i64 (lsn : Nat), strV key, .agg #[.bool vh, strV vd]] w fun e w' => e = .returned (.tuple #[.agg #[.int .i64 0, .slice none 0 0], .int .i64 100]) ∧ Upd Nowhere w w' := by
  refine (pset_ok h hp lsn h1.1 h1.2 key vh vd hc).mono ?_
  rintro e w' ⟨_, a, b⟩
  exact ⟨a hr, b⟩
set_option maxRecDepth 100000 in
set_option maxHeartbeats 4000000 in
theorem change_ok (h : PoolAt bz w P p l S T) (hB : PoB T) (n : Int) (lsn : Nat) (h1 : 1 ≤ lsn) (h2 : lsn ≤ 1099511627776) (key : Ky) (vh : Bool) (vd : Bs) (hc : CellOK (key, (vh, vd))) : Calls Tryz.prog 25 #[.pointer (some ⟨P, 0, none⟩), .int .i64 n, .int .i64 (lsn : Nat), strV key, .agg #[.bool vh, strV vd]] w (PoP bz P l p S (changeS T n lsn key (vh, vd)).1 (changeS T n lsn key (vh, vd)).2 w) := by
  have hua := (Upd.refl Nowhere w).alloc (.cells #[.bool vh, strV vd] 32)
  have HPN := Lib.hid (pinned_ok (h.up hua) n)
  have HB0 := Lib.hid (Blk.new w 32 #[.bool vh, strV vd])
  have HU := Lib.hid hua
  have HH := Lib.hid h
  have hPlt : P < w.heap.size := h.blk.lt
  have HCS : Hid (changeS T n lsn key (vh, vd) = match pinS T n with
    | .error e => (T, e)
    | .ok q => if roomB q.1.cells key then ({ T with L := updF T.L { q.1 with lsn := lsn, cells := setC q.1.cells key (vh, vd), rc := if q.1.rc = 0 then lsn else q.1.rc } }, 0) else (T, 100)) := Lib.hid rfl
  cases hp : pinS T n with
  | error x =>
    have hx := pin_err hp
    have hxb : (x == 0) = false := by rcases hx with rfl | rfl <;> rfl
    have hcs := HCS.out
    rw [hp] at hcs
    simp only at hcs
    rw [hp, pinV_err] at HPN
    rw [hcs]
    clear h hx hp hB hua hcs HCS
    go_enter Tryz.func25, Tryz.ntmps25
    go_wp2_with fail
    refine HPN.out.mono ?_
    rintro e w1 ⟨rfl, rfl⟩
    go_wp2_with fail
    go_ret
    exact ⟨rfl, HH.out.up HU.out, HU.out.any⟩
  | ok q =>
    obtain ⟨hq, hno, hpins, _⟩ := pinS_ok hp
    obtain ⟨x, b⟩ := q
    have hok := (hB.fr _ hq).2.2.2
    have hfr := ((h.up hua).fr _ hq)
    obtain ⟨A, c, f0, f1, f2, f3, f4, f5, f6, fz, hce⟩ := hfr.cells
    simp only at f2 f4 f5 hce hok
    have hcs := HCS.out
    rw [hp] at hcs
    simp only at hcs
    rw [hp, pinV_ok] at HPN
    have HCS2 := Lib.hid hcs
    have hblt : b < w.heap.size := by
      obtain ⟨_, _, hb', _⟩ := (h.fr _ hq).ex
      exact hb'.lt
    have HQ := Lib.hid hq
    have HFR := Lib.hid hfr
    have HOK := Lib.hid hok
    have HL12 := Lib.hid (show 1 ≤ lsn ∧ lsn ≤ 1099511627776 from ⟨h1, h2⟩)
    have HCO := Lib.hid hc
    have v0 := HB0.out.cell 0
    have v1 := HB0.out.cell 1
    simp only [List.getElem?_toArray, List.getElem?_cons_zero, List.getElem?_cons_succ] at v0 v1
    have HHA := Lib.hid (h.up hua)
    clear h hp hq hok hfr hpins f0 f1 f3 f6 hB hno hua hcs HCS
    go_enter Tryz.func25, Tryz.ntmps25
    go_wp2_with fail
    refine HPN.out.mono ?_
    rintro e w1 ⟨rfl, rfl⟩
    go_wp2_with fail
    obtain ⟨wA, hwA⟩ : ∃ wA, w.alloc (.cells #[.bool vh, strV vd] 32) = wA := ⟨_, rfl⟩
    rw [hwA] at HU HB0 HHA HFR f2 f4 f5 v0 v1 fz hce ⊢
    have dd : wA.drew.cell? ⟨b, 4, none⟩ = some (.int .i64 (x.lsn : Nat)) ∧ wA.drew.cell? ⟨b, 5, none⟩ = some (.slice A x.cells.length c) ∧ wA.drew.cell? ⟨w.heap.size, 0, none⟩ = some (.bool vh) ∧ wA.drew.cell? ⟨w.heap.size, 1, none⟩ = some (strV vd) := ⟨f4, f5, v0, v1⟩
    have hszA : wA.heap.size = w.heap.size + 1 := by rw [← hwA]; simp
    have hblt2 : b < wA.heap.size := by omega
    have hwlt2 : w.heap.size < wA.heap.size := by omega
    clear hszA
    have ee : ∀ X : World, Upd Nowhere wA X → X.cell? ⟨b, 4, none⟩ = some (.int .i64 (x.lsn : Nat)) ∧ X.cell? ⟨b, 5, none⟩ = some (.slice A x.cells.length c) ∧ X.cell? ⟨w.heap.size, 0, none⟩ = some (.bool vh) ∧ X.cell? ⟨w.heap.size, 1, none⟩ = some (strV vd) := fun X hX => ⟨(hX.cell (p := ⟨b, 4, none⟩) hblt2 id).trans dd.1, (hX.cell (p := ⟨b, 5, none⟩) hblt2 id).trans dd.2.1, (hX.cell (p := ⟨w.heap.size, 0, none⟩) hwlt2 id).trans dd.2.2.1, (hX.cell (p := ⟨w.heap.size, 1, none⟩) hwlt2 id).trans dd.2.2.2⟩
    have EE := Lib.hid ee
    have d2 := ee _ (((Upd.refl Nowhere wA).alloc (.cells #[.int .i64 0, .slice none 0 0] 72)).drew : Upd Nowhere wA (wA.alloc (.cells #[.int .i64 0, .slice none 0 0] 72)).drew)
    have HCE := Lib.hid hce
    clear ee hce
    cases hr : roomB x.cells key with
    | true =>
      have HR := Lib.hid hr
      have HS1 := Lib.hid (pset_t (w := wA.drew) (HCE.out.up (Upd.refl Nowhere wA).drew) HOK.out lsn HL12.out key vh vd HCO.out hr)
      have HS2 := Lib.hid (pset_t (w := (wA.alloc (.cells #[.int .i64 0, .slice none 0 0] 72)).drew) ((HCE.out.up ((Upd.refl Nowhere wA).alloc (.cells #[.int .i64 0, .slice none 0 0] 72))).up (Upd.refl Nowhere _).drew) HOK.out lsn HL12.out key vh vd HCO.out hr)
      clear hr
      go_cut [12, 13] (fun t12 t13 wz => ∃ (q13 : Nat) (A3 : Option Addr) (c3 : Nat), t12 = .int .i64 0 ∧ t13 = .pointer (some ⟨q13, 0, none⟩) ∧ Blk wz q13 72 #[.int .i64 (lsn : Nat), .slice A3 (setC x.pg.cells key (vh, vd)).length c3] ∧ Upd Nowhere wA wz ∧ OwnC wA.heap.size wz (.slice A3 (setC x.pg.cells key (vh, vd)).length c3) (setC x.pg.cells key (vh, vd)))
      case first =>
        go_region_held3 (fun w' => w'.cell? ⟨b, 4, none⟩ = some (.int .i64 (x.lsn : Nat)) ∧ w'.cell? ⟨b, 5, none⟩ = some (.slice A x.cells.length c) ∧ w'.cell? ⟨w.heap.size, 0, none⟩ = some (.bool vh) ∧ w'.cell? ⟨w.heap.size, 1, none⟩ = some (strV vd)) (first | with_reducible exact dd | with_reducible exact d2 | with_reducible exact k2 | with_reducible exact k3 | with_reducible exact k4 | with_reducible exact k5)
          (first
            | (go_at_call 81
               refine HS1.out.mono ?_
               rintro e w3 ⟨A3, c3, rfl, hO3, hU3⟩
               have hU3' : Upd Nowhere wA w3 := (Upd.refl Nowhere wA).drew.same hU3
               have k2 := EE.out w3 hU3'
               have k3 := EE.out _ (hU3'.alloc (.cells #[.int .i64 0, .slice none 0 0] 72))
               have k4 := EE.out _ (hU3'.alloc (.cells #[.int .i64 (lsn : Nat), .slice A3 (setC x.pg.cells key (vh, vd)).length c3] 72))
               have HU3 := Lib.hid hU3'
               have HO3 := Lib.hid hO3
               clear hO3
               clear hU3 hU3')
            | (go_at_call 81
               refine HS2.out.mono ?_
               rintro e w3 ⟨A3, c3, rfl, hO3, hU3⟩
               have hU3' : Upd Nowhere wA w3 := (((Upd.refl Nowhere wA).alloc (.cells #[.int .i64 0, .slice none 0 0] 72)).drew : Upd Nowhere wA (wA.alloc (.cells #[.int .i64 0, .slice none 0 0] 72)).drew).same hU3
               have k2 := EE.out w3 hU3'
               have k5 := EE.out _ ((hU3'.setCell (p := ⟨wA.heap.size, 0, none⟩) (fun h => absurd h (Nat.lt_irrefl _)) (.int .i64 (lsn : Nat))).setCell (p := ⟨wA.heap.size, 1, none⟩) (fun h => absurd h (Nat.lt_irrefl _)) (.slice A3 (setC x.pg.cells key (vh, vd)).length c3))
               have hbq := (Blk.new wA 72 #[.int .i64 0, .slice none 0 0]).drew.upd hU3 id
               have z0 := hbq.cell 0
               have z1 := hbq.cell 1
               have y0 := hbq.frozen 0
               have y1 := hbq.frozen 1
               simp only [List.getElem?_toArray, List.getElem?_cons_zero, List.getElem?_cons_succ] at z0 z1
               have HBQ := Lib.hid hbq
               have HU3 := Lib.hid hU3'
               have HO3 := Lib.hid hO3
               clear hO3
               clear hU3 hU3' hbq))
        · go_wp2_with fail
          go_meet
          exact ⟨w3.heap.size, A3, c3, rfl, rfl, Blk.new _ _ _, HU3.out.alloc _, (HO3.out.alloc _ : OwnC wA.heap.size _ _ _)⟩
        · go_wp2_with fail
          go_meet
          have hnb : ∀ k, (Value.slice A3 (setC x.pg.cells key (vh, vd)).length c3).ownBlock = some k → wA.heap.size < k := fun k hk => by have := HO3.out.new k hk; simp at this; omega
          have hbz := (HBQ.out.set_ 0 (.int .i64 (lsn : Nat))).set_ 1 (.slice A3 (setC x.pg.cells key (vh, vd)).length c3)
          simp only [List.setIfInBounds_toArray, List.set_cons_succ, List.set_cons_zero] at hbz
          exact ⟨wA.heap.size, A3, c3, rfl, rfl, hbz, (HU3.out.setCell (p := ⟨wA.heap.size, 0, none⟩) (fun h => absurd h (Nat.lt_irrefl _)) _).setCell (p := ⟨wA.heap.size, 1, none⟩) (fun h => absurd h (Nat.lt_irrefl _)) _, ((HO3.out.far (B' := wA.heap.size) fun k hk => Nat.le_of_lt (hnb k hk)).upd (Upd.one _ wA.heap.size 0 _) fun k hk e => by have := hnb k hk; omega).upd (Upd.one _ wA.heap.size 1 _) fun k hk e => by have := hnb k hk; omega⟩
      case rest =>
        obtain ⟨q13, A3, c3, rfl, rfl, hb13, hu, hO⟩ := hcut
        have HUZ := Lib.hid (HU.out.same hu)
        have HPA := Lib.hid (HHA.out.up hu)
        have HO := Lib.hid hO
        obtain ⟨A0, c0, hbw, _⟩ := (HFR.out.upd hu id (NoC.nowhere wA)).ex
        have HBW := Lib.hid hbw
        have r2 := hbw.cell 2
        have r4 := hbw.cell 4
        have r5 := hbw.cell 5
        have z2 := hbw.frozen 2
        have z4 := hbw.frozen 4
        have z5 := hbw.frozen 5
        unfold frC at r2 r4 r5
        have p0 := hb13.cell 0
        have p1 := hb13.cell 1
        simp only [List.getElem?_toArray, List.getElem?_cons_zero, List.getElem?_cons_succ] at r2 r4 r5 p0 p1
        have hcs2 := HCS2.out
        rw [HR.out] at hcs2
        have hcs3 : changeS T n lsn key (vh, vd) = ({ T with L := updF T.L { x with lsn := lsn, cells := setC x.cells key (vh, vd), rc := if x.rc = 0 then lsn else x.rc } }, 0) := hcs2
        have HCS3 := Lib.hid hcs3
        clear hu hcs2 hcs3 hbw hb13 hO dd d2 f2 f4 f5 v0 v1 fz
        by_cases hrc : x.rc = 0
        · have HRC := Lib.hid hrc
          have r2' : wc.cell? ⟨b, 2, none⟩ = some (.int .i64 0) := by rw [r2, hrc]; rfl
          have hw : Upd (fun k => k = b) wc (((wc.setCell ⟨b, 4, none⟩ (.int .i64 (lsn : Nat))).setCell ⟨b, 5, none⟩ (.slice A3 (setC x.pg.cells key (vh, vd)).length c3)).setCell ⟨b, 2, none⟩ (.int .i64 (lsn : Nat))) := ((Upd.one wc b 4 _).same (Upd.one _ b 5 _)).same (Upd.one _ b 2 _)
          have hcell : CellsE (((wc.setCell ⟨b, 4, none⟩ (.int .i64 (lsn : Nat))).setCell ⟨b, 5, none⟩ (.slice A3 (setC x.pg.cells key (vh, vd)).length c3)).setCell ⟨b, 2, none⟩ (.int .i64 (lsn : Nat))) (.slice A3 (setC x.pg.cells key (vh, vd)).length c3) (setC x.pg.cells key (vh, vd)) := HO.out.cellsE.upd hw (noC_blk HBW.out (by decide))
          have hblk : Blk (((wc.setCell ⟨b, 4, none⟩ (.int .i64 (lsn : Nat))).setCell ⟨b, 5, none⟩ (.slice A3 (setC x.pg.cells key (vh, vd)).length c3)).setCell ⟨b, 2, none⟩ (.int .i64 (lsn : Nat))) b 142 (frC { x with lsn := lsn, cells := setC x.cells key (vh, vd), rc := if x.rc = 0 then lsn else x.rc } (.slice A3 (setC x.pg.cells key (vh, vd)).length c3)) := by
            have h9 := ((HBW.out.set_ 4 (.int .i64 (lsn : Nat))).set_ 5 (.slice A3 (setC x.pg.cells key (vh, vd)).length c3)).set_ 2 (.int .i64 (lsn : Nat))
            unfold frC at h9 ⊢
            simp only [List.setIfInBounds_toArray, List.set_cons_succ, List.set_cons_zero] at h9
            simp only [if_pos HRC.out]
            exact h9
          have hfin := HPA.out.setFr HQ.out (x := { x with lsn := lsn, cells := setC x.cells key (vh, vd), rc := if x.rc = 0 then lsn else x.rc }) rfl hw ⟨A3, c3, hblk, hcell⟩
          have HFIN := Lib.hid hfin
          have HUFN := Lib.hid (HUZ.out.any.trans (hw.mono fun k _ e => (e ▸ HPA.out.frameF HQ.out : PoolF bz wc k)) fun k hk e => by
            exact Classical.byContradiction fun hn => hn (e.upd hk HUZ.out id))
          clear hw hcell hblk hfin
          clear hrc r2
          go_wp2_with fail
          go_ret
          rw [HCS3.out]
          exact ⟨rfl, HFIN.out, HUFN.out⟩
        · have HRC := Lib.hid hrc
          obtain ⟨rcv, hrcv⟩ : ∃ rcv, x.rc = rcv := ⟨_, rfl⟩
          have hrb : ((rcv : Int) == 0) = false := by rw [← hrcv]; simpa using hrc
          have hrb2 : ¬ (rcv : Int) = 0 := by omega
          rw [hrcv] at r2
          have hw : Upd (fun k => k = b) wc ((wc.setCell ⟨b, 4, none⟩ (.int .i64 (lsn : Nat))).setCell ⟨b, 5, none⟩ (.slice A3 (setC x.pg.cells key (vh, vd)).length c3)) := (Upd.one wc b 4 _).same (Upd.one _ b 5 _)
          have hcell : CellsE ((wc.setCell ⟨b, 4, none⟩ (.int .i64 (lsn : Nat))).setCell ⟨b, 5, none⟩ (.slice A3 (setC x.pg.cells key (vh, vd)).length c3)) (.slice A3 (setC x.pg.cells key (vh, vd)).length c3) (setC x.pg.cells key (vh, vd)) := HO.out.cellsE.upd hw (noC_blk HBW.out (by decide))
          have hblk : Blk ((wc.setCell ⟨b, 4, none⟩ (.int .i64 (lsn : Nat))).setCell ⟨b, 5, none⟩ (.slice A3 (setC x.pg.cells key (vh, vd)).length c3)) b 142 (frC { x with lsn := lsn, cells := setC x.cells key (vh, vd), rc := if x.rc = 0 then lsn else x.rc } (.slice A3 (setC x.pg.cells key (vh, vd)).length c3)) := by
            have h9 := (HBW.out.set_ 4 (.int .i64 (lsn : Nat))).set_ 5 (.slice A3 (setC x.pg.cells key (vh, vd)).length c3)
            unfold frC at h9 ⊢
            simp only [List.setIfInBounds_toArray, List.set_cons_succ, List.set_cons_zero] at h9
            simp only [if_neg HRC.out]
            exact h9
          have hfin := HPA.out.setFr HQ.out (x := { x with lsn := lsn, cells := setC x.cells key (vh, vd), rc := if x.rc = 0 then lsn else x.rc }) rfl hw ⟨A3, c3, hblk, hcell⟩
          have HFIN := Lib.hid hfin
          have HUFN := Lib.hid (HUZ.out.any.trans (hw.mono fun k _ e => (e ▸ HPA.out.frameF HQ.out : PoolF bz wc k)) fun k hk e => by
            exact Classical.byContradiction fun hn => hn (e.upd hk HUZ.out id))
          clear hw hcell hblk hfin
          clear hrc hrcv
          go_wp2_with fail
          go_ret
          rw [HCS3.out]
          exact ⟨rfl, HFIN.out, HUFN.out⟩
    | false =>
      have HR := Lib.hid hr
      have HS1 := Lib.hid (pset_f (w := wA.drew) (HCE.out.up (Upd.refl Nowhere wA).drew) HOK.out lsn HL12.out key vh vd HCO.out hr)
      have HS2 := Lib.hid (pset_f (w := (wA.alloc (.cells #[.int .i64 0, .slice none 0 0] 72)).drew) ((HCE.out.up ((Upd.refl Nowhere wA).alloc (.cells #[.int .i64 0, .slice none 0 0] 72))).up (Upd.refl Nowhere _).drew) HOK.out lsn HL12.out key vh vd HCO.out hr)
      clear hr
      go_cut [12, 13] (fun t12 t13 wz => ∃ (q13 : Nat), t12 = .int .i64 100 ∧ t13 = .pointer (some ⟨q13, 0, none⟩) ∧ Blk wz q13 72 #[.int .i64 0, .slice none 0 0] ∧ Upd Nowhere wA wz)
      case first =>
        go_region_held3 (fun w' => w'.cell? ⟨b, 4, none⟩ = some (.int .i64 (x.lsn : Nat)) ∧ w'.cell? ⟨b, 5, none⟩ = some (.slice A x.cells.length c) ∧ w'.cell? ⟨w.heap.size, 0, none⟩ = some (.bool vh) ∧ w'.cell? ⟨w.heap.size, 1, none⟩ = some (strV vd)) (first | with_reducible exact dd | with_reducible exact d2 | with_reducible exact k2 | with_reducible exact k3 | with_reducible exact k4 | with_reducible exact k5)
          (first
            | (go_at_call 81
               refine HS1.out.mono ?_
               rintro e w3 ⟨rfl, hU3⟩
               have hU3' : Upd Nowhere wA w3 := (Upd.refl Nowhere wA).drew.same hU3
               have k2 := EE.out w3 hU3'
               have k3 := EE.out _ (hU3'.alloc (.cells #[.int .i64 0, .slice none 0 0] 72))
               have k4 := EE.out _ (hU3'.alloc (.cells #[.int .i64 0, .slice none 0 0] 72))
               have HU3 := Lib.hid hU3'
               clear hU3 hU3')
            | (go_at_call 81
               refine HS2.out.mono ?_
               rintro e w3 ⟨rfl, hU3⟩
               have hU3' : Upd Nowhere wA w3 := (((Upd.refl Nowhere wA).alloc (.cells #[.int .i64 0, .slice none 0 0] 72)).drew : Upd Nowhere wA (wA.alloc (.cells #[.int .i64 0, .slice none 0 0] 72)).drew).same hU3
               have k2 := EE.out w3 hU3'
               have k5 := EE.out _ ((hU3'.setCell (p := ⟨wA.heap.size, 0, none⟩) (fun h => absurd h (Nat.lt_irrefl _)) (.int .i64 0)).setCell (p := ⟨wA.heap.size, 1, none⟩) (fun h => absurd h (Nat.lt_irrefl _)) (.slice none 0 0))
               have hbq := (Blk.new wA 72 #[.int .i64 0, .slice none 0 0]).drew.upd hU3 id
               have z0 := hbq.cell 0
               have z1 := hbq.cell 1
               have y0 := hbq.frozen 0
               have y1 := hbq.frozen 1
               simp only [List.getElem?_toArray, List.getElem?_cons_zero, List.getElem?_cons_succ] at z0 z1
               have HBQ := Lib.hid hbq
               have HU3 := Lib.hid hU3'
               clear hU3 hU3' hbq))
        · go_wp2_with fail
          go_meet
          exact ⟨w3.heap.size, rfl, rfl, Blk.new _ _ _, HU3.out.alloc _⟩
        · go_wp2_with fail
          go_meet
          first
            | exact ⟨wA.heap.size, rfl, rfl, HBQ.out, HU3.out⟩
            | (have hbz := (HBQ.out.set_ 0 (.int .i64 0)).set_ 1 (.slice none 0 0)
               simp only [List.setIfInBounds_toArray, List.set_cons_succ, List.set_cons_zero] at hbz
               exact ⟨wA.heap.size, rfl, rfl, hbz, (HU3.out.setCell (p := ⟨wA.heap.size, 0, none⟩) (fun h => absurd h (Nat.lt_irrefl _)) _).setCell (p := ⟨wA.heap.size, 1, none⟩) (fun h => absurd h (Nat.lt_irrefl _)) _⟩)
      case rest =>
        obtain ⟨q13, rfl, rfl, hb13, hu⟩ := hcut
        have HUZ := Lib.hid (HU.out.same hu)
        have HPA := Lib.hid (HHA.out.up hu)
        have hcs2 := HCS2.out
        rw [HR.out] at hcs2
        have hcs3 : changeS T n lsn key (vh, vd) = (T, 100) := hcs2
        have HCS3 := Lib.hid hcs3
        clear hu hcs2 hcs3
        go_wp2_with fail
        go_ret
        rw [HCS3.out]
        exact ⟨rfl, HPA.out, HUZ.out.any⟩
end
end Go.Proofs.YtdfccegeihfdpaaGreatDoor
