/-
  Contracts of layer 12: back, Flush, Evict.
-/
import Derived.Test.YtdfccegeihfdpaaGreatDoorPgK
import Derived.Deep.RegionHeld3
namespace Go.Proofs.YtdfccegeihfdpaaGreatDoor
open Go Go.RowKit

set_option maxRecDepth 100000 in
set_option maxHeartbeats 1000000 in
theorem pforced_ok {bz : Nat} {w : World} {l k : Nat} {p : DkP} {S : LogS} (h : LogAt bz w l p S) (hB : LogB k S) (hk : k ≤ 80) (hd : S.down = false) :
    Calls Tryz.prog 34 #[.pointer (some ⟨l, 0, none⟩)] w fun e w' => e = .returned (.int .i64 (S.m.lsn + (S.forced : Nat) - 1)) ∧ Upd Nowhere w w' := by
  have hoff := off_ok h
  rw [hd] at hoff
  obtain ⟨A, c, its, hbx, _, hl, _⟩ := h.ex
  obtain ⟨lsn, hlsn⟩ := Int.eq_ofNat_of_zero_le (by have := hB.lsn.1; omega : 0 ≤ S.m.lsn)
  have h1 := hB.lsn
  have h2 := hB.len
  have h6 := hB.frc
  obtain ⟨dk, count, ⟨gen, minc, first, mlsn, check⟩, items, forced, next, forces, down⟩ := S
  simp only at hlsn hbx hl h1 h2 h6 hoff ⊢
  subst hlsn
  have c5 := hbx.cell 5
  have c8 := hbx.cell 8
  simp only [List.getElem?_toArray, List.getElem?_cons_zero, List.getElem?_cons_succ] at c5 c8
  have h3 : (lsn : Int) ≤ 100000 := by omega
  have h4 : ((forced : Nat) : Int) ≤ 100000 := by omega
  have h5 : (1 : Int) ≤ (lsn : Int) := by omega
  have HOF := Lib.hid hoff
  clear h hB hk hbx h1 h2 h6 hoff
  go_enter Tryz.func34, Tryz.ntmps34
  go_wp2_with fail
  refine HOF.out.mono ?_
  rintro e w2 ⟨rfl, rfl⟩
  go_wp2_with fail
  go_region
  go_wp2_with fail
  go_ret
  exact ⟨rfl, (Upd.refl _ _).drew⟩

/-- A disk that bears a page's sector. -/
structure DkC (n : Nat) (D : DiskS) : Prop where
  fuse : D.fuse ≤ 9223372036854775807
  syncs : 0 ≤ D.syncs ∧ D.syncs ≤ 3000000000
  size : 204 + 2 * n ≤ D.size
  read : ∀ k : Int, (D.read k).length = 256
  pend : D.pend.length ≤ 80000
/-- A frame is written back. -/
def LogS.lastF (S : LogS) : Int := S.m.lsn + (S.forced : Nat) - 1
def fcS (S : LogS) (x : FrP) : LogS × Int := if S.lastF < (x.lsn : Int) then S.forceS else (S, 0)
def backS (S : LogS) (T : PoS) (x : FrP) : (LogS × PoS) × Int :=
  if x.rc = 0 then ((S, T), 0)
  else if (fcS S x).2 ≠ 0 then (((fcS S x).1, T), (fcS S x).2)
  else if (saveS (fcS S x).1.dk x.no (x.stamp + 1) x.pg).2 ≠ 0 then (({ (fcS S x).1 with dk := (saveS (fcS S x).1.dk x.no (x.stamp + 1) x.pg).1 }, T), (saveS (fcS S x).1.dk x.no (x.stamp + 1) x.pg).2)
  else (({ (fcS S x).1 with dk := (saveS (fcS S x).1.dk x.no (x.stamp + 1) x.pg).1 }, { T with L := updF T.L { x with stamp := x.stamp + 1, rc := 0 } }), 0)
/-- What a call of the pool leaves that may write. -/
def PwP (bz P l : Nat) (p : DkP) (R : (LogS × PoS) × Int) (w : World) (e : Ending) (w' : World) : Prop := ∃ p' : DkP, p'.d = p.d ∧ e = .returned (.int .i64 R.2) ∧ PoolAt bz w' P p' l R.1.1 R.1.2 ∧ Upd (PoolF bz w) w w'
section
variable {w : World} {bz P l : Nat} {p : DkP} {S : LogS} {T : PoS}
set_option maxRecDepth 100000 in
set_option maxHeartbeats 4000000 in
theorem back_ok (h : PoolAt bz w P p l S T) (hT : PoB T) {k : Nat} (hB : LogB k S) (hk : k ≤ 70) (hd : S.down = false) (hW : HalfW w) {q : FrB} (hq : q ∈ T.L) (hD : DkC q.1.no S.dk) (hD2 : DkC q.1.no S.forceS.1.dk) : Calls Tryz.prog 85 #[.pointer (some ⟨P, 0, none⟩), ptrF q] w (PwP bz P l p (backS S T q.1) w) := by
  obtain ⟨x, b⟩ := q
  simp only at hD hD2 ⊢
  unfold ptrF
  simp only
  obtain ⟨A, c, f0, f1, f2, f3, f4, f5, f6, fz, hce⟩ := (h.fr _ hq).cells
  simp only at f0 f1 f2 f3 f4 f5 f6 hce
  have HH := Lib.hid h
  have HQ := Lib.hid hq
  have HBS : Hid (backS S T x = if x.rc = 0 then ((S, T), 0)
    else if (fcS S x).2 ≠ 0 then (((fcS S x).1, T), (fcS S x).2)
    else if (saveS (fcS S x).1.dk x.no (x.stamp + 1) x.pg).2 ≠ 0 then (({ (fcS S x).1 with dk := (saveS (fcS S x).1.dk x.no (x.stamp + 1) x.pg).1 }, T), (saveS (fcS S x).1.dk x.no (x.stamp + 1) x.pg).2)
    else (({ (fcS S x).1 with dk := (saveS (fcS S x).1.dk x.no (x.stamp + 1) x.pg).1 }, { T with L := updF T.L { x with stamp := x.stamp + 1, rc := 0 } }), 0)) := Lib.hid rfl
  by_cases hrc : x.rc = 0
  · have hbs := HBS.out
    rw [if_pos hrc] at hbs
    rw [hbs]
    have f2' : w.cell? ⟨b, 2, none⟩ = some (.int .i64 0) := by rw [f2, hrc]; rfl
    clear h hT hB hd hW hq hD hD2 hrc hbs HBS f0 f1 f2 f3 f4 f5 f6 fz hce
    go_enter Tryz.func85, Tryz.ntmps85
    go_wp2_with fail
    go_ret
    exact ⟨p, rfl, rfl, HH.out, Upd.refl _ _⟩
  · have hbs := HBS.out
    rw [if_neg hrc] at hbs
    have HBS := Lib.hid hbs
    have hbx := h.blk
    have c0 := hbx.cell 0
    have c1 := hbx.cell 1
    have c2 := hbx.cell 2
    simp only [List.getElem?_toArray, List.getElem?_cons_zero, List.getElem?_cons_succ] at c0 c1 c2
    have HLB := Lib.hid hB
    have HW := Lib.hid hW
    have HD := Lib.hid hD
    have HD2 := Lib.hid hD2
    have HT := Lib.hid hT
    have HDN := Lib.hid hd
    obtain ⟨rcv, hrcv⟩ : ∃ rcv, x.rc = rcv := ⟨_, rfl⟩
    have hrb : ((rcv : Int) == 0) = false := by rw [← hrcv]; simpa using hrc
    have hrb2 : ¬ (rcv : Int) = 0 := by omega
    rw [hrcv] at f2
    have dd : w.drew.cell? ⟨b, 4, none⟩ = some (.int .i64 (x.lsn : Nat)) ∧ w.drew.cell? ⟨P, 1, none⟩ = some (.pointer (some ⟨l, 0, none⟩)) := ⟨f4, c1⟩
    have hfo := pforced_ok (h.log.up (Upd.refl Nowhere w).drew) hB (by omega) hd
    have HFO := Lib.hid hfo
    have hblt : b < w.heap.size := by
      obtain ⟨_, _, hb', _⟩ := (h.fr _ hq).ex
      exact hb'.lt
    have hPlt : P < w.heap.size := hbx.lt
    clear h hT hB hd hW hq hD hD2 hrc hbs f0 f1 f3 f5 f6 hce hbx hfo hrcv
    go_enter Tryz.func85, Tryz.ntmps85
    go_wp2_with fail
    go_region_held3 (fun w' => w'.cell? ⟨b, 4, none⟩ = some (.int .i64 (x.lsn : Nat)) ∧ w'.cell? ⟨P, 1, none⟩ = some (.pointer (some ⟨l, 0, none⟩))) (first | with_reducible exact dd | with_reducible exact k2)
      (first
        | (go_at_call 34
           refine HFO.out.mono ?_
           rintro e w1 ⟨rfl, hU1⟩
           have k2 : w1.cell? ⟨b, 4, none⟩ = some (.int .i64 (x.lsn : Nat)) ∧ w1.cell? ⟨P, 1, none⟩ = some (.pointer (some ⟨l, 0, none⟩)) := ⟨(hU1.cell (p := ⟨b, 4, none⟩) hblt id).trans dd.1, (hU1.cell (p := ⟨P, 1, none⟩) hPlt id).trans dd.2⟩
           have HU1 := Lib.hid hU1
           clear hU1))
    go_upto_if 24 with (fail)
    have HP1 := Lib.hid (HH.out.up ((Upd.refl Nowhere w).drew.same HU1.out))
    have HW1 := Lib.hid (HW.out.upd ((Upd.refl Nowhere w).drew.same HU1.out) id)
    have HUA := Lib.hid (((Upd.refl (PoolF bz w) w).drew).same HU1.out.any)
    have HFC : Hid (fcS S x = if S.lastF < (x.lsn : Int) then S.forceS else (S, 0)) := Lib.hid rfl
    clear dd k2
    go_cut [5] (fun t5 wz => ∃ p2 : DkP, p2.d = p.d ∧ (fcS S x).2 = 0 ∧ PoolAt bz wz P p2 l (fcS S x).1 T ∧ Upd (PoolF bz w) w wz)
    case first =>
      by_cases hlt : S.lastF < (x.lsn : Int)
      · have hfc := HFC.out
        rw [if_pos hlt] at hfc
        have HFC2 := Lib.hid hfc
        have dw : decide (S.m.lsn + (S.forced : Nat) - 1 < (x.lsn : Int)) = true := decide_eq_true hlt
        rw [dw]
        have c1' := HP1.out.blk.cell 1
        simp only [List.getElem?_toArray, List.getElem?_cons_zero, List.getElem?_cons_succ] at c1'
        have hfo := force_ok HP1.out.log HLB.out (by omega) HDN.out HW1.out (HLB.out.sheets_good (by omega)) (by rw [HLB.out.find_len, placesB_len]) HLB.out.find_le
        have HFR := Lib.hid hfo
        clear hfo hfc dw hlt
        go_wp2_with fail
        refine HFR.out.mono ?_
        rintro e w2 ⟨p2, hpd, rfl, hL2, hU2⟩
        have HP2 := Lib.hid (HP1.out.logs hL2 hpd hU2)
        have HU2 := Lib.hid (HUA.out.pools (hU2.log_pool))
        have HPD := Lib.hid hpd
        clear hL2 hU2 hpd
        obtain ⟨⟨S2, x2⟩, hS2⟩ : ∃ t, S.forceS = t := ⟨_, rfl⟩
        rw [hS2] at HFC2 HP2 ⊢
        simp only at HP2 ⊢
        clear hS2
        by_cases hx2 : x2 = 0
        · subst hx2
          go_wp2_with fail
          go_meet
          exact ⟨p2, HPD.out, by rw [HFC2.out], by rw [HFC2.out]; exact HP2.out, HU2.out⟩
        · have hxb : (x2 == 0) = false := by simpa using hx2
          have HX2 := Lib.hid hx2
          clear hx2
          go_wp2_with fail
          go_ret
          have hbs := HBS.out
          rw [HFC2.out, if_pos HX2.out] at hbs
          rw [hbs]
          exact ⟨p2, HPD.out, rfl, HP2.out, HU2.out⟩
      · have hfc := HFC.out
        rw [if_neg hlt] at hfc
        have HFC2 := Lib.hid hfc
        have dw : decide (S.m.lsn + (S.forced : Nat) - 1 < (x.lsn : Int)) = false := decide_eq_false hlt
        rw [dw]
        clear hfc dw hlt
        go_wp2_with fail
        go_meet
        exact ⟨p, rfl, by rw [HFC2.out], by rw [HFC2.out]; exact HP1.out, HUA.out⟩
    case rest =>
      obtain ⟨p2, hpd, hz, hP2, hU2⟩ := hcut
      have hDK : DkC x.no (fcS S x).1.dk := by
        rw [HFC.out]
        split
        · exact HD2.out
        · exact HD.out
      obtain ⟨A1, k1, g0, g1, g2, g3, g4, g5, g6, gz, hce⟩ := (hP2.fr _ HQ.out).cells
      have hok := (HT.out.fr _ HQ.out)
      simp only at g0 g3 g4 g5 hce hok
      have hbx := hP2.blk
      have c0' := hbx.cell 0
      have c2' := hbx.cell 2
      simp only [List.getElem?_toArray, List.getElem?_cons_zero, List.getElem?_cons_succ] at c0' c2'
      rw [hpd] at c0'
      have dd : wc.drew.cell? ⟨P, 0, none⟩ = some (.pointer (some ⟨p.d, 0, none⟩)) ∧ wc.drew.cell? ⟨P, 2, none⟩ = some (.int .i64 202) ∧ wc.drew.cell? ⟨b, 0, none⟩ = some (.int .i64 (x.no : Nat)) ∧ wc.drew.cell? ⟨b, 3, none⟩ = some (.int .i64 (x.stamp : Nat)) ∧ wc.drew.cell? ⟨b, 4, none⟩ = some (.int .i64 (x.lsn : Nat)) ∧ wc.drew.cell? ⟨b, 5, none⟩ = some (.slice A1 x.cells.length k1) := ⟨c0', c2', g0, g3, g4, g5⟩
      have hsv := ssave_ok ((hP2.log.up (Upd.refl Nowhere wc).drew).dk) hDK.fuse hDK.syncs x.no (x.stamp + 1) (by have := hok.1; have := HT.out.pages; omega) hDK.size hDK.read hDK.pend (by omega) (by have := hok.2.2.1; omega) (p := x.pg) (hce.up (Upd.refl Nowhere wc).drew) hok.2.2.2
      rw [hpd] at hsv
      have hst : (x.stamp : Int) ≤ 1000 := by have := hok.2.2.1; omega
      have hwr : IntKind.i64.wrap ((x.stamp : Int) + 1) = ((x.stamp + 1 : Nat) : Int) := by rw [IntKind.wrap_i64]; omega
      have HSV := Lib.hid hsv
      have HPD := Lib.hid hpd
      have HZ := Lib.hid hz
      have HP2 := Lib.hid hP2
      have HU2 := Lib.hid hU2
      have hbs := HBS.out
      rw [if_neg (by rw [hz]; decide)] at hbs
      have HBS2 := Lib.hid hbs
      obtain ⟨⟨D3, x3⟩, hD3⟩ : ∃ t, saveS (fcS S x).1.dk x.no (x.stamp + 1) x.pg = t := ⟨_, rfl⟩
      rw [hD3] at HSV HBS2
      simp only at HSV HBS2
      clear hsv hpd hz hP2 hU2 hDK hbs hok hce g0 g1 g2 g3 g4 g5 g6 gz hbx c0' c2' hD3
      obtain ⟨m1, hm1⟩ : ∃ m1, x.stamp + 1 = m1 := ⟨_, rfl⟩
      rw [hm1] at hwr HSV
      have HM1 := Lib.hid hm1
      clear hm1
      go_upto_region 7 with (fail)
      go_region_held3 (fun w' => w'.cell? ⟨P, 0, none⟩ = some (.pointer (some ⟨p.d, 0, none⟩)) ∧ w'.cell? ⟨P, 2, none⟩ = some (.int .i64 202) ∧ w'.cell? ⟨b, 0, none⟩ = some (.int .i64 (x.no : Nat)) ∧ w'.cell? ⟨b, 3, none⟩ = some (.int .i64 (x.stamp : Nat)) ∧ w'.cell? ⟨b, 4, none⟩ = some (.int .i64 (x.lsn : Nat)) ∧ w'.cell? ⟨b, 5, none⟩ = some (.slice A1 x.cells.length k1)) (first | with_reducible exact dd | with_reducible exact k2)
        (first
          | (go_at_call 137
             refine HSV.out.mono ?_
             rintro e w3 ⟨v3, rfl, hD, hU, hN⟩
             have hlu := (HP2.out.log.up (Upd.refl Nowhere wc).drew)
             have hL3 := hlu.disk (p' := p2.at_ v3) rfl ⟨rfl, rfl⟩ hU hD (hlu.far hN)
             have hP3 := (HP2.out.up (Upd.refl Nowhere wc).drew).logs (p' := p2.at_ v3) hL3 rfl (hlu.foot hU)
             have HP3 := Lib.hid hP3
             have HU3 := Lib.hid (HU2.out.pools ((Upd.refl (PoolF bz wc) wc).drew.trans ((hlu.foot hU).log_pool) fun _ _ h => h))
             have k2 : w3.cell? ⟨P, 0, none⟩ = some (.pointer (some ⟨p.d, 0, none⟩)) ∧ w3.cell? ⟨P, 2, none⟩ = some (.int .i64 202) ∧ w3.cell? ⟨b, 0, none⟩ = some (.int .i64 (x.no : Nat)) ∧ w3.cell? ⟨b, 3, none⟩ = some (.int .i64 (x.stamp : Nat)) ∧ w3.cell? ⟨b, 4, none⟩ = some (.int .i64 (x.lsn : Nat)) ∧ w3.cell? ⟨b, 5, none⟩ = some (.slice A1 x.cells.length k1) := by
               have hbp : Upd (LogF bz wc.drew) wc.drew w3 := hlu.foot hU
               have hnP : ¬ LogF bz wc.drew P := (HP2.out.up (Upd.refl Nowhere wc).drew).blk.noLog rfl
               have hnb : ¬ LogF bz wc.drew b := by
                 obtain ⟨_, _, hb', _⟩ := ((HP2.out.up (Upd.refl Nowhere wc).drew).fr _ HQ.out).ex
                 exact hb'.noLog rfl
               have hPl : P < wc.drew.heap.size := HP2.out.blk.lt
               have hbl : b < wc.drew.heap.size := by
                 obtain ⟨_, _, hb', _⟩ := (HP2.out.fr _ HQ.out).ex
                 exact hb'.lt
               exact ⟨(hbp.cell (p := ⟨P, 0, none⟩) hPl hnP).trans dd.1, (hbp.cell (p := ⟨P, 2, none⟩) hPl hnP).trans dd.2.1, (hbp.cell (p := ⟨b, 0, none⟩) hbl hnb).trans dd.2.2.1, (hbp.cell (p := ⟨b, 3, none⟩) hbl hnb).trans dd.2.2.2.1, (hbp.cell (p := ⟨b, 4, none⟩) hbl hnb).trans dd.2.2.2.2.1, (hbp.cell (p := ⟨b, 5, none⟩) hbl hnb).trans dd.2.2.2.2.2⟩
             clear hlu hL3 hP3 hU hD hN))
      all_goals
        by_cases hx3 : x3 = 0
        · subst hx3
          have hbs := HBS2.out
          rw [if_neg (by decide)] at hbs
          have HBS3 := Lib.hid hbs
          have hfr3 := HP3.out.fr _ HQ.out
          obtain ⟨_, _, hb3, _⟩ := hfr3.ex
          have z3 := hb3.frozen 3
          have z2 := hb3.frozen 2
          have r3 := k2.2.2.2.1
          have r2 : w3.cell? ⟨b, 2, none⟩ = some (.int .i64 (x.rc : Nat)) := hb3.cell 2
          have hfs := (hfr3.set (x' := { x with stamp := m1 }) 3 (.int .i64 (m1 : Nat)) rfl fun v => rfl).set (x' := { x with stamp := m1, rc := 0 }) 2 (.int .i64 0) rfl fun v => rfl
          have hfin := HP3.out.setFr HQ.out (x := { x with stamp := m1, rc := 0 }) rfl ((Upd.one w3 b 3 _).same (Upd.one _ b 2 _)) hfs
          rw [← HM1.out] at hfin
          have HFIN := Lib.hid hfin
          have HUF := Lib.hid (HU3.out.pools ((((Upd.refl (PoolF bz w3) w3).setCell (p := ⟨b, 3, none⟩) (fun _ => HP3.out.frameF HQ.out) (.int .i64 (m1 : Nat)))).setCell (p := ⟨b, 2, none⟩) (fun _ => HP3.out.frameF HQ.out) (.int .i64 0)))
          have HMM := Lib.hid HM1.out
          clear dd hbs hfr3 hb3 hfs hfin k2
          have hwr3 : (x.stamp : Int) + 1 = (m1 : Int) := by have := HMM.out; omega
          go_wp2_with fail
          go_ret
          rw [HBS3.out]
          refine ⟨p2.at_ v3, HPD.out, rfl, ?_, ?_⟩
          · have h9 := HFIN.out
            simp only [HMM.out] at h9
            simp only [HMM.out]
            exact h9
          · exact HUF.out
        · have hbs := HBS2.out
          rw [if_pos (by simpa using hx3)] at hbs
          have HBS3 := Lib.hid hbs
          have hxb : (x3 == 0) = false := by simpa using hx3
          clear dd hbs k2 hx3
          go_wp2_with fail
          go_ret
          rw [HBS3.out]
          exact ⟨p2.at_ v3, HPD.out, rfl, HP3.out, HU3.out⟩
end
end Go.Proofs.YtdfccegeihfdpaaGreatDoor
