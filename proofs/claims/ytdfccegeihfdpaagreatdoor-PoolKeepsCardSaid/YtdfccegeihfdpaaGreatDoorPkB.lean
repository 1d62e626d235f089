/-
  PoolKeeps: the law, walked.
-/
import Derived.Test.YtdfccegeihfdpaaGreatDoorPkA
import Derived.Deep.RegionHeld3
namespace Go.Proofs.YtdfccegeihfdpaaGreatDoor
open Go Go.RowKit

/-- What Append leaves, with the law's call in memory. -/
def AppQ (w w1 : World) (P l d pg fr hb x q c top : Nat) (f : Nat → Nat) (G H : Nat → PgP) (bq : Nat) (y : CaV) (k e : Int) (w' : World) : Prop := (e = 90 ∧ KQ w w1 P l d pg fr hb x q c top f G H bq y w') ∨ (e = 0 ∧ ∃ kn : Nat, k = (kn : Nat) ∧ 1 ≤ kn ∧ KQ w w1 P l d pg fr hb x q (c + 1) kn f G H bq y w')
theorem AppQ.cells {w w1 : World} {P l d pg fr hb x q c top : Nat} {f : Nat → Nat} {G H : Nat → PgP} {bq : Nat} {y : CaV} {k e : Int} {w' : World} (h : AppQ w w1 P l d pg fr hb x q c top f G H bq y k e w') : KQc P l x bq y w' := by
  rcases h with ⟨_, h⟩ | ⟨_, _, _, _, h⟩
  · exact h.cells
  · exact h.cells
theorem KQ.append {w w1 wr : World} {P l d pg fr hb x q c top : Nat} {f : Nat → Nat} {G H : Nat → PgP} {bq : Nat} {y : CaV} (h : KQ w w1 P l d pg fr hb x q c top f G H bq y wr) (hc : c ≤ 990) (hk : CellOK (y.key, (y.vh, y.vd))) : Calls Tryz.prog 24 #[.pointer (some ⟨l, 0, none⟩), .agg (updA y.key y.vh y.vd), .int .i64 0] wr fun e w' => ∃ k x', e = .returned (.tuple #[.int .i64 k, .int .i64 x']) ∧ AppQ w w1 P l d pg fr hb x q c top f G H bq y k x' w' := by
  refine (h.ks.append hc y.key y.vh y.vd hk).mono ?_
  rintro e w' (⟨rfl, hK, hu⟩ | ⟨k, rfl, h1, hK, hu⟩)
  · exact ⟨_, _, rfl, .inl ⟨rfl, h.pool hu hK⟩⟩
  · exact ⟨_, _, rfl, .inr ⟨rfl, k, rfl, h1, h.pool hu hK⟩⟩
/-- A page of the law's own is another one. -/
theorem KQ.store {w w1 wr : World} {P l d pg fr hb x q c top n : Nat} {f : Nat → Nat} {G H : Nat → PgP} {bq : Nat} {y : CaV} (h : KQ w w1 P l d pg fr hb x q c top f G H bq y wr) (hge : w1.heap.size ≤ hb) (hn : n < pg) (x' : PgP) {A : Option Addr} {c' : Nat} (hx : CellsE wr (.slice A x'.cells.length c') x'.cells) : KQ w w1 P l d pg fr hb x q c top f G (setH H n x') bq y ((wr.setCell ⟨hb, n * 2, none⟩ (.int .i64 (x'.lsn : Nat))).setCell ⟨hb, n * 2 + 1, none⟩ (.slice A x'.cells.length c')) := by
  obtain ⟨arr, h1, _⟩ := h.ks.hav.ex
  have hu := (Upd.one wr hb (n * 2) (.int .i64 (x'.lsn : Nat))).same (Upd.one _ hb (n * 2 + 1) (.slice A x'.cells.length c'))
  have hC : NoC (fun k => k = hb) wr := noC_blk h1 (by decide)
  have hne : ∀ {g t : Nat} {cs : Array Value}, Blk wr g t cs → t ≠ 72 → ¬ g = hb := fun hb2 ht e => by
    subst e
    unfold Blk at hb2 h1
    rw [hb2] at h1
    injection h1 with h1
    injection h1 with _ e2 _
    exact ht e2
  obtain ⟨p, S, T, M, g1, g2⟩ := h.ks.ex
  refine ⟨⟨⟨p, S, T, M, g1.upd hu (fun k e => by subst e; exact ⟨hge, h1.noPool rfl⟩) (fun k e hk => ?_) hC, g2⟩, h.ks.hav.set hn x' hx, h.ks.play.upd hu (hne h.ks.play (by decide)), h.ks.upd.same (hu.mono fun k _ e => by subst e; exact Nat.le_trans h.ks.le hge), h.ks.le⟩, h.blk.upd hu (hne h.blk (by decide))⟩
  subst e
  obtain ⟨cs, fz, h2⟩ := hk
  unfold Blk at h1
  rw [h1] at h2
  injection h2 with h2
  injection h2 with _ e2 _
  cases e2
set_option maxRecDepth 100000 in
set_option maxHeartbeats 16000000 in
theorem poolKeeps_in (pages frames : Int) {w : World} {A0 : Option Addr} {N c0 : Nat} {L : List CaV} (hE : Els 5 CaV.cells w (.slice A0 N c0) L) (hN : L.length = N) (hW : HalfW w) (hz : 0 < w.heap.size) :
    Calls Tryz.prog 4 #[.int .i64 pages, .int .i64 frames, .slice A0 N c0] w fun e w' => e = .returned (.bool true) ∧ Upd (fun k => w.heap.size ≤ k) w w' := by
  have HR := Lib.hid (pright_ok pages frames hE hN)
  have HE := Lib.hid hE
  have HN := Lib.hid hN
  have HW := Lib.hid hW
  have HZ := Lib.hid hz
  clear hE hN hW hz
  go_enter Tryz.func4, Tryz.ntmps4
  go_wp2_with fail
  refine HR.out.mono ?_
  rintro e w0 ⟨b, rfl, hb, hu0⟩
  have HU0 : Hid (Upd (fun k => w.heap.size ≤ k) w w0) := Lib.hid hu0.any
  have HW0 := Lib.hid (HW.out.upd hu0 id)
  have HZ0 : Hid (0 < w0.heap.size) := Lib.hid (Nat.lt_of_lt_of_le HZ.out hu0.size)
  have HLE : Hid (w.heap.size ≤ w0.heap.size) := Lib.hid hu0.size
  clear hu0 HR
  cases b with
  | false =>
    clear hb
    go_wp2_with fail
    refine (awake_ok HW0.out HZ0.out).mono ?_
    rintro e w9 ⟨rfl, hu9⟩
    have HU9 : Hid (Upd (fun k => w.heap.size ≤ k) w w9) := Lib.hid (HU0.out.same (hu9.mono fun _ _ e => Nat.le_trans HLE.out e))
    clear hu9
    go_wp2_with fail
    go_ret
    exact ⟨rfl, HU9.out⟩
  | true =>
    obtain ⟨hpg, hfr, hlen, hok⟩ := hb rfl
    clear hb
    obtain ⟨pg, rfl⟩ : ∃ n : Nat, pages = (n : Nat) := ⟨pages.toNat, by omega⟩
    obtain ⟨fr, rfl⟩ : ∃ n : Nat, frames = (n : Nat) := ⟨frames.toNat, by omega⟩
    have hb := begun_ok w0 HW0.out HZ0.out pg fr (by omega) (by omega) (by omega) (by omega)
    have HB := Lib.hid hb
    have HPG : Hid (1 ≤ pg ∧ pg ≤ 20) := Lib.hid ⟨by omega, by omega⟩
    have HFR : Hid (1 ≤ fr ∧ fr ≤ 20) := Lib.hid ⟨by omega, by omega⟩
    have HOK := Lib.hid hok
    have HLEN : Hid (N ≤ 100) := Lib.hid (by have := HN.out; omega)
    have hpgI : (pg : Int) ≤ 20 := by omega
    clear hb hpg hfr hlen hok
    go_wp2_with fail
    refine HB.out.mono ?_
    rintro e w1 ⟨x, rfl, hbeg⟩
    obtain ⟨P, l, q, d, p1, S1, T1, hx1, h1, hT1, _, _, _⟩ := begK HW0.out HPG.out HFR.out hbeg
    have HK1 : Hid (KS w w0 P l d pg fr w1.heap.size x q 0 S1.items.length noF (fun _ => pg0) (fun _ => pg0) (w1.alloc (.cells (madeCells #[.int .i64 0, .slice none 0 0] (pg * 2)) 72))) := Lib.hid
      ⟨⟨p1, S1, T1, _, h1.up ((Upd.refl Nowhere w1).alloc _), rfl, fun m _ => by rw [hT1]; rfl, fun m => by rw [hT1]; rfl⟩, HaveAt.new w1 pg, hx1.alloc _, (HU0.out.same hbeg.upd.any).alloc _, HLE.out⟩
    have hmk := mkPages w1 pg (by have := HPG.out; omega)
    have HHB : Hid (w0.heap.size ≤ w1.heap.size) := Lib.hid hbeg.upd.size
    clear hbeg hx1 h1 hT1 HB
    go_wp2_with fail
    generalize hwA : w1.alloc (.cells (madeCells #[.int .i64 0, .slice none 0 0] (pg * 2)) 72) = wA at *
    generalize hhb : w1.heap.size = hb at *
    clear hmk hwA hhb
    go_loopw [9] (fun s9 wr => ∃ (i top : Nat) (G : Nat → PgP), s9 = .int .i64 (i : Int) ∧ i ≤ N ∧ KS w w0 P l d pg fr hb x q (7 * i) top noF G G wr ∧ ∀ n, n < pg → (G n).ok) (fun s9 _ => N - (intOf s9).toNat)
    case atStart => exact ⟨0, _, _, rfl, Nat.zero_le _, HK1.out, fun _ _ => pg0_ok⟩
    case round =>
      obtain ⟨i, top, G, rfl, hi, hK, hG⟩ := hrel
      have HG := Lib.hid hG
      have HK := Lib.hid hK
      clear hG
      by_cases hlt : i < N
      · obtain ⟨⟨kind, n, key, vh, vd⟩, hx⟩ : ∃ y, L[i]? = some y := ⟨_, List.getElem?_eq_getElem (by rw [HN.out]; exact hlt)⟩
        have hE2 := HE.out.newer hK.upd fun k hk e => by omega
        obtain ⟨b, off, rfl, hbl, r0, r1, r2, r3, r4⟩ := CaV.get hE2 hx
        have hco := HOK.out _ (List.mem_of_getElem? hx)
        unfold CaV.ok at hco
        simp only at r0 r1 r2 r3 r4 hco
        have HCO := Lib.hid hco
        have hiI : (i : Int) < (N : Int) := by omega
        have hNI : (N : Int) ≤ 100 := by have := HLEN.out; omega
        obtain ⟨bq, hbq⟩ : ∃ bq, wr.heap.size = bq := ⟨_, rfl⟩
        by_cases hin : 0 ≤ n ∧ n < (pg : Int)
        · obtain ⟨m, rfl⟩ : ∃ m : Nat, n = (m : Nat) := ⟨n.toNat, by omega⟩
          have hq : KQ w w0 P l d pg fr hb x q (7 * i) top noF G G bq ⟨kind, (m : Nat), key, vh, vd⟩ (wr.alloc (.cells #[.int .i64 kind, .int .i64 (m : Nat), strV key, .bool vh, strV vd] 61)) := ⟨hK.up ((Upd.refl Nowhere wr).alloc _), hbq ▸ Blk.new wr _ _⟩
          have hm : m < pg := by omega
          have HM := Lib.hid hm
          have g1 : ¬ (m : Int) < 0 := by omega
          have g2 : (m : Int) < (pg : Int) := by omega
          generalize hwA : wr.alloc (.cells #[.int .i64 kind, .int .i64 (m : Nat), strV key, .bool vh, strV vd] 61) = wA at *
          have z1 := hq.ks.play.cell 1
          have z2 := hq.ks.play.cell 2
          have z3 := hq.blk.cell 0
          have z4 := hq.blk.cell 1
          have z5 := hq.blk.cell 2
          have z6 := hq.blk.cell 3
          have z7 := hq.blk.cell 4
          simp only [List.getElem?_toArray, List.getElem?_cons_zero, List.getElem?_cons_succ] at z1 z2 z3 z4 z5 z6 z7
          have HQ := Lib.hid hq
          have HFE := Lib.hid ((hq.up (Upd.refl Nowhere wA).drew).ks.fetch (by omega) hm)
          have dd : wA.cell? ⟨x, 1, none⟩ = some (.pointer (some ⟨l, 0, none⟩)) ∧ wA.cell? ⟨x, 2, none⟩ = some (.pointer (some ⟨P, 0, none⟩)) ∧ wA.cell? ⟨bq, 0, none⟩ = some (.int .i64 kind) ∧ wA.cell? ⟨bq, 1, none⟩ = some (.int .i64 (m : Nat)) ∧ wA.cell? ⟨bq, 2, none⟩ = some (strV key) ∧ wA.cell? ⟨bq, 3, none⟩ = some (.bool vh) ∧ wA.cell? ⟨bq, 4, none⟩ = some (strV vd) := hq.cells
          have d2 : wA.drew.cell? ⟨x, 1, none⟩ = some (.pointer (some ⟨l, 0, none⟩)) ∧ wA.drew.cell? ⟨x, 2, none⟩ = some (.pointer (some ⟨P, 0, none⟩)) ∧ wA.drew.cell? ⟨bq, 0, none⟩ = some (.int .i64 kind) ∧ wA.drew.cell? ⟨bq, 1, none⟩ = some (.int .i64 (m : Nat)) ∧ wA.drew.cell? ⟨bq, 2, none⟩ = some (strV key) ∧ wA.drew.cell? ⟨bq, 3, none⟩ = some (.bool vh) ∧ wA.drew.cell? ⟨bq, 4, none⟩ = some (strV vd) := (hq.up (Upd.refl Nowhere wA).drew).cells
          clear hK hE2 hx hco hq hin hm
          go_wp2_with fail
          clear r0 r1 r2 r3 r4
          go_cut [56] (fun t56 wz => t56 = .bool false ∧ ∃ top2, KQ w w0 P l d pg fr hb x q (7 * i + 4) top2 (oneF m) G G bq ⟨kind, (m : Nat), key, vh, vd⟩ wz)
          case first =>
            go_region_held3 (fun w' => w'.cell? ⟨x, 1, none⟩ = some (.pointer (some ⟨l, 0, none⟩)) ∧ w'.cell? ⟨x, 2, none⟩ = some (.pointer (some ⟨P, 0, none⟩)) ∧ w'.cell? ⟨bq, 0, none⟩ = some (.int .i64 kind) ∧ w'.cell? ⟨bq, 1, none⟩ = some (.int .i64 (m : Nat)) ∧ w'.cell? ⟨bq, 2, none⟩ = some (strV key) ∧ w'.cell? ⟨bq, 3, none⟩ = some (.bool vh) ∧ w'.cell? ⟨bq, 4, none⟩ = some (strV vd)) (first | with_reducible exact dd | with_reducible exact d2 | with_reducible exact k2)
              (first
                | (go_at_call 23
                   refine HFE.out.mono ?_
                   rintro e w2 ⟨rfl, ⟨top2, hK2⟩, hu2⟩
                   have hq2 := (HQ.out.up (Upd.refl Nowhere wA).drew).pool hu2 hK2
                   have k2 : w2.cell? ⟨x, 1, none⟩ = some (.pointer (some ⟨l, 0, none⟩)) ∧ w2.cell? ⟨x, 2, none⟩ = some (.pointer (some ⟨P, 0, none⟩)) ∧ w2.cell? ⟨bq, 0, none⟩ = some (.int .i64 kind) ∧ w2.cell? ⟨bq, 1, none⟩ = some (.int .i64 (m : Nat)) ∧ w2.cell? ⟨bq, 2, none⟩ = some (strV key) ∧ w2.cell? ⟨bq, 3, none⟩ = some (.bool vh) ∧ w2.cell? ⟨bq, 4, none⟩ = some (strV vd) := hq2.cells
                   have HQ2 := Lib.hid hq2
                   clear hK2 hu2 hq2))
            all_goals
              go_wp2_with fail
              go_meet
              exact ⟨rfl, top2, HQ2.out⟩
          case rest =>
            obtain ⟨rfl, top2, hq2⟩ := hcut
            have HQ2 := Lib.hid hq2
            have c3 := hq2.blk.cell 0
            simp only [List.getElem?_toArray, List.getElem?_cons_zero] at c3
            clear hq2 HQ HFE dd d2 z1 z2 z3 z4 z5 z6 z7 g1 g2
            go_upto_if 60 with (fail)
            go_cut [11] (fun t11 wz => ∃ top3 G3, KQ w w0 P l d pg fr hb x q (7 * i + 5) top3 (oneF m) G3 G3 bq ⟨kind, (m : Nat), key, vh, vd⟩ wz ∧ ∀ k, k < pg → (G3 k).ok)
            case first =>
              as_aux_lemma =>
                have hk2c := HQ2.out
                by_cases hk2 : Int.tmod kind 2 = 0
                · have dd : wc.cell? ⟨x, 1, none⟩ = some (.pointer (some ⟨l, 0, none⟩)) ∧ wc.cell? ⟨x, 2, none⟩ = some (.pointer (some ⟨P, 0, none⟩)) ∧ wc.cell? ⟨bq, 0, none⟩ = some (.int .i64 kind) ∧ wc.cell? ⟨bq, 1, none⟩ = some (.int .i64 (m : Nat)) ∧ wc.cell? ⟨bq, 2, none⟩ = some (strV key) ∧ wc.cell? ⟨bq, 3, none⟩ = some (.bool vh) ∧ wc.cell? ⟨bq, 4, none⟩ = some (strV vd) := HQ2.out.cells
                  have d2 : wc.drew.cell? ⟨x, 1, none⟩ = some (.pointer (some ⟨l, 0, none⟩)) ∧ wc.drew.cell? ⟨x, 2, none⟩ = some (.pointer (some ⟨P, 0, none⟩)) ∧ wc.drew.cell? ⟨bq, 0, none⟩ = some (.int .i64 kind) ∧ wc.drew.cell? ⟨bq, 1, none⟩ = some (.int .i64 (m : Nat)) ∧ wc.drew.cell? ⟨bq, 2, none⟩ = some (strV key) ∧ wc.drew.cell? ⟨bq, 3, none⟩ = some (.bool vh) ∧ wc.drew.cell? ⟨bq, 4, none⟩ = some (strV vd) := (HQ2.out.up (Upd.refl Nowhere wc).drew).cells
                  have hap := (HQ2.out.up (Upd.refl Nowhere wc).drew).append (by omega) HCO.out
                  unfold updA at hap
                  simp only at hap
                  have HAP := Lib.hid hap
                  clear hap hk2c
                  go_wp2_with fail
                  go_cut [11, 12] (fun t11 t12 wz => ∃ k e, t11 = .int .i64 k ∧ t12 = .int .i64 e ∧ AppQ w w0 P l d pg fr hb x q (7 * i + 4) top2 (oneF m) G G bq ⟨kind, (m : Nat), key, vh, vd⟩ k e wz)
                  case first =>
                    go_region_held3 (fun w' => w'.cell? ⟨x, 1, none⟩ = some (.pointer (some ⟨l, 0, none⟩)) ∧ w'.cell? ⟨x, 2, none⟩ = some (.pointer (some ⟨P, 0, none⟩)) ∧ w'.cell? ⟨bq, 0, none⟩ = some (.int .i64 kind) ∧ w'.cell? ⟨bq, 1, none⟩ = some (.int .i64 (m : Nat)) ∧ w'.cell? ⟨bq, 2, none⟩ = some (strV key) ∧ w'.cell? ⟨bq, 3, none⟩ = some (.bool vh) ∧ w'.cell? ⟨bq, 4, none⟩ = some (strV vd)) (first | with_reducible exact dd | with_reducible exact d2 | with_reducible exact k2)
                      (first
                        | (go_at_call 24
                           refine HAP.out.mono ?_
                           rintro e w2 ⟨k9, x9, rfl, hA9⟩
                           have k2 : w2.cell? ⟨x, 1, none⟩ = some (.pointer (some ⟨l, 0, none⟩)) ∧ w2.cell? ⟨x, 2, none⟩ = some (.pointer (some ⟨P, 0, none⟩)) ∧ w2.cell? ⟨bq, 0, none⟩ = some (.int .i64 kind) ∧ w2.cell? ⟨bq, 1, none⟩ = some (.int .i64 (m : Nat)) ∧ w2.cell? ⟨bq, 2, none⟩ = some (strV key) ∧ w2.cell? ⟨bq, 3, none⟩ = some (.bool vh) ∧ w2.cell? ⟨bq, 4, none⟩ = some (strV vd) := hA9.cells
                           have HA9 := Lib.hid hA9
                           clear hA9))
                    all_goals
                      go_wp2_with fail
                      go_meet
                      exact ⟨k9, x9, rfl, rfl, HA9.out⟩
                  case rest =>
                    obtain ⟨k9, x9, rfl, rfl, hA9⟩ := hcut
                    clear dd d2 HAP HQ2 hk2 c3
                    rcases hA9 with ⟨rfl, hq9⟩ | ⟨rfl, kn, rfl, hkn, hq9⟩
                    · have HQ9 := Lib.hid hq9
                      clear hq9
                      go_wp2_with fail
                      refine wp_region_grown (w0 := wc) (by kernel_rfl) (by kernel_rfl) (Upd.refl _ _) ?_
                      go_big_quiet_want
                      refine BigFrame.quiet_move (.tmp 12) rfl ?_
                      go_simp
                      go_big_quiet_on
                      go_big_quiet_want
                      refine quiet_val (v := .bool false) (fun w' hw' => by go_simp) ?_
                      go_simp
                      go_big_quiet_on
                      go_big_quiet_want
                      refine BigFrame.quiet_move (.tmp 75) rfl ?_
                      go_simp
                      go_big_quiet_on
                      go_big_quiet_skip
                      go_big_quiet_skip
                      go_big_quiet_skip
                      go_big_quiet_skip
                      go_big_quiet_skip
                      go_big_quiet_skip
                      go_big_quiet_skip
                      go_big_quiet_skip
                      go_big_quiet_skip
                      go_big_quiet_skip
                      go_big_quiet_skip
                      go_big_quiet_skip
                      go_big_quiet_skip
                      go_big_quiet_want
                      refine quiet_val (v := .bool false) (fun w' hw' => by go_simp) ?_
                      go_simp
                      go_big_quiet_on
                      refine wpQuiet_nil ?_
                      intro w9 hw9
                      have HQ8 := Lib.hid (HQ9.out.up hw9)
                      clear hw9
                      go_wp2_with fail
                      go_meet
                      exact ⟨top2, G, ⟨HQ8.out.ks.mono (by omega), HQ8.out.blk⟩, HG.out⟩
                    · have HQ9 := Lib.hid hq9
                      have HKN := Lib.hid hkn
                      have dd : wc.cell? ⟨x, 1, none⟩ = some (.pointer (some ⟨l, 0, none⟩)) ∧ wc.cell? ⟨x, 2, none⟩ = some (.pointer (some ⟨P, 0, none⟩)) ∧ wc.cell? ⟨bq, 0, none⟩ = some (.int .i64 kind) ∧ wc.cell? ⟨bq, 1, none⟩ = some (.int .i64 (m : Nat)) ∧ wc.cell? ⟨bq, 2, none⟩ = some (strV key) ∧ wc.cell? ⟨bq, 3, none⟩ = some (.bool vh) ∧ wc.cell? ⟨bq, 4, none⟩ = some (strV vd) := hq9.cells
                      have d2 : wc.drew.cell? ⟨x, 1, none⟩ = some (.pointer (some ⟨l, 0, none⟩)) ∧ wc.drew.cell? ⟨x, 2, none⟩ = some (.pointer (some ⟨P, 0, none⟩)) ∧ wc.drew.cell? ⟨bq, 0, none⟩ = some (.int .i64 kind) ∧ wc.drew.cell? ⟨bq, 1, none⟩ = some (.int .i64 (m : Nat)) ∧ wc.drew.cell? ⟨bq, 2, none⟩ = some (strV key) ∧ wc.drew.cell? ⟨bq, 3, none⟩ = some (.bool vh) ∧ wc.drew.cell? ⟨bq, 4, none⟩ = some (strV vd) := (hq9.up (Upd.refl Nowhere wc).drew).cells
                      have hcg := (hq9.up (Upd.refl Nowhere wc).drew).ks.change (by omega) HM.out hkn key vh vd HCO.out
                      cases hr : roomB (G m).cells key with
                      | false =>
                        rw [hr] at hcg
                        have HCG := Lib.hid hcg
                        clear hq9 hcg hr hkn
                        go_wp2_with fail
                        go_cut [90] (fun t90 wz => t90 = .bool false ∧ KQ w w0 P l d pg fr hb x q (7 * i + 5) kn (oneF m) G G bq ⟨kind, (m : Nat), key, vh, vd⟩ wz)
                        case first =>
                          go_region_held3 (fun w' => w'.cell? ⟨x, 1, none⟩ = some (.pointer (some ⟨l, 0, none⟩)) ∧ w'.cell? ⟨x, 2, none⟩ = some (.pointer (some ⟨P, 0, none⟩)) ∧ w'.cell? ⟨bq, 0, none⟩ = some (.int .i64 kind) ∧ w'.cell? ⟨bq, 1, none⟩ = some (.int .i64 (m : Nat)) ∧ w'.cell? ⟨bq, 2, none⟩ = some (strV key) ∧ w'.cell? ⟨bq, 3, none⟩ = some (.bool vh) ∧ w'.cell? ⟨bq, 4, none⟩ = some (strV vd)) (first | with_reducible exact dd | with_reducible exact d2 | with_reducible exact k2)
                            (first
                              | (go_at_call 25
                                 refine HCG.out.mono ?_
                                 rintro e w2 ⟨rfl, hK2, hu2⟩
                                 have hq2 := (HQ9.out.up (Upd.refl Nowhere wc).drew).pool hu2 hK2
                                 have k2 : w2.cell? ⟨x, 1, none⟩ = some (.pointer (some ⟨l, 0, none⟩)) ∧ w2.cell? ⟨x, 2, none⟩ = some (.pointer (some ⟨P, 0, none⟩)) ∧ w2.cell? ⟨bq, 0, none⟩ = some (.int .i64 kind) ∧ w2.cell? ⟨bq, 1, none⟩ = some (.int .i64 (m : Nat)) ∧ w2.cell? ⟨bq, 2, none⟩ = some (strV key) ∧ w2.cell? ⟨bq, 3, none⟩ = some (.bool vh) ∧ w2.cell? ⟨bq, 4, none⟩ = some (strV vd) := hq2.cells
                                 have HQ2 := Lib.hid hq2
                                 clear hK2 hu2 hq2))
                          all_goals
                            go_wp2_with fail
                            go_meet
                            exact ⟨rfl, HQ2.out⟩
                        case rest =>
                          obtain ⟨rfl, hq8⟩ := hcut
                          have HQ8 := Lib.hid hq8
                          clear hq8 dd d2
                          go_wp2_with fail
                          go_meet
                          exact ⟨kn, G, HQ8.out, HG.out⟩
                      | true =>
                        as_aux_lemma =>
                          rw [hr] at hcg
                          have HRM := Lib.hid hr
                          have HCG := Lib.hid hcg
                          clear hq9 hcg hr hkn
                          go_wp2_with fail
                          go_cut [90] (fun t90 wz => t90 = .bool true ∧ KQ w w0 P l d pg fr hb x q (7 * i + 5) kn (oneF m) (setH G m ((G m).set kn key (vh, vd))) G bq ⟨kind, (m : Nat), key, vh, vd⟩ wz)
                          case first =>
                            go_region_held3 (fun w' => w'.cell? ⟨x, 1, none⟩ = some (.pointer (some ⟨l, 0, none⟩)) ∧ w'.cell? ⟨x, 2, none⟩ = some (.pointer (some ⟨P, 0, none⟩)) ∧ w'.cell? ⟨bq, 0, none⟩ = some (.int .i64 kind) ∧ w'.cell? ⟨bq, 1, none⟩ = some (.int .i64 (m : Nat)) ∧ w'.cell? ⟨bq, 2, none⟩ = some (strV key) ∧ w'.cell? ⟨bq, 3, none⟩ = some (.bool vh) ∧ w'.cell? ⟨bq, 4, none⟩ = some (strV vd)) (first | with_reducible exact dd | with_reducible exact d2 | with_reducible exact k2)
                              (first
                                | (go_at_call 25
                                   refine HCG.out.mono ?_
                                   rintro e w2 ⟨rfl, hK2, hu2⟩
                                   have hq2 := (HQ9.out.up (Upd.refl Nowhere wc).drew).pool hu2 hK2
                                   have k2 : w2.cell? ⟨x, 1, none⟩ = some (.pointer (some ⟨l, 0, none⟩)) ∧ w2.cell? ⟨x, 2, none⟩ = some (.pointer (some ⟨P, 0, none⟩)) ∧ w2.cell? ⟨bq, 0, none⟩ = some (.int .i64 kind) ∧ w2.cell? ⟨bq, 1, none⟩ = some (.int .i64 (m : Nat)) ∧ w2.cell? ⟨bq, 2, none⟩ = some (strV key) ∧ w2.cell? ⟨bq, 3, none⟩ = some (.bool vh) ∧ w2.cell? ⟨bq, 4, none⟩ = some (strV vd) := hq2.cells
                                   have HQ2 := Lib.hid hq2
                                   clear hK2 hu2 hq2))
                            all_goals
                              go_wp2_with fail
                              go_meet
                              exact ⟨rfl, HQ2.out⟩
                          case rest =>
                            obtain ⟨rfl, hq8⟩ := hcut
                            have HQ8 := Lib.hid hq8
                            clear dd d2 HQ9 HCG
                            obtain ⟨Ah, ch, hbl8, j0, j1, jf, hce8⟩ := hq8.ks.hav.get HM.out
                            have hcell : ∀ W, Upd Nowhere wc W → (W.cell? ⟨x, 1, none⟩ = some (.pointer (some ⟨l, 0, none⟩)) ∧ W.cell? ⟨x, 2, none⟩ = some (.pointer (some ⟨P, 0, none⟩)) ∧ W.cell? ⟨bq, 0, none⟩ = some (.int .i64 kind) ∧ W.cell? ⟨bq, 1, none⟩ = some (.int .i64 (m : Nat)) ∧ W.cell? ⟨bq, 2, none⟩ = some (strV key) ∧ W.cell? ⟨bq, 3, none⟩ = some (.bool vh) ∧ W.cell? ⟨bq, 4, none⟩ = some (strV vd) ∧ W.cell? ⟨hb, m * 2, none⟩ = some (.int .i64 ((G m).lsn : Nat)) ∧ W.cell? ⟨hb, m * 2 + 1, none⟩ = some (.slice Ah (G m).cells.length ch)) := fun W hW => by
                              obtain ⟨i1, i2, i3, i4, i5, i6, i7⟩ := (HQ8.out.up hW).cells
                              exact ⟨i1, i2, i3, i4, i5, i6, i7, (hW.cell (p := ⟨hb, m * 2, none⟩) hbl8 id).trans j0, (hW.cell (p := ⟨hb, m * 2 + 1, none⟩) hbl8 id).trans j1⟩
                            have EE := Lib.hid hcell
                            have hkb : kn ≤ 1099511627776 := by
                              obtain ⟨p9, S9, T9, M9, o1, o2, _⟩ := hq8.ks.ex
                              have := o1.inv.lg.len
                              omega
                            have HS1 := Lib.hid (rset_ok (w := wc.drew) (p := G m) (hce8.up (Upd.refl Nowhere wc).drew) (HG.out m HM.out) kn HKN.out hkb key vh vd HCO.out HRM.out)
                            have HS2 := Lib.hid (rset_ok (w := (wc.alloc (.cells #[.int .i64 0, .slice none 0 0] 72)).drew) (p := G m) ((hce8.up ((Upd.refl Nowhere wc).alloc (.cells #[.int .i64 0, .slice none 0 0] 72))).up (Upd.refl Nowhere _).drew) (HG.out m HM.out) kn HKN.out hkb key vh vd HCO.out HRM.out)
                            have dd := hcell wc (Upd.refl _ _)
                            have d2 := hcell wc.drew (Upd.refl Nowhere wc).drew
                            clear hq8 hce8 hcell
                            have d3 := EE.out (wc.alloc (.cells #[.int .i64 0, .slice none 0 0] 72)) ((Upd.refl Nowhere wc).alloc _)
                            have d4 := EE.out (wc.alloc (.cells #[.int .i64 0, .slice none 0 0] 72)).drew ((Upd.refl Nowhere wc).alloc _).drew
                            have g2 : (m : Int) < (pg : Int) := by have := HM.out; omega
                            have HKB := Lib.hid hkb
                            clear hkb
                            go_wp2_with fail
                            go_cut [13, 14] (fun t13 t14 wz => ∃ (q13 : Nat) (A3 : Option Addr) (c3 : Nat), t13 = .pointer (some ⟨q13, 0, none⟩) ∧ t14 = .int .i64 0 ∧ Blk wz q13 72 #[.int .i64 (kn : Nat), .slice A3 (setC (G m).cells key (vh, vd)).length c3] ∧ CellsE wz (.slice A3 (setC (G m).cells key (vh, vd)).length c3) (setC (G m).cells key (vh, vd)) ∧ KQ w w0 P l d pg fr hb x q (7 * i + 5) kn (oneF m) (setH G m ((G m).set kn key (vh, vd))) G bq ⟨kind, (m : Nat), key, vh, vd⟩ wz)
                            case first =>
                              go_region_held3 (fun w' => w'.cell? ⟨x, 1, none⟩ = some (.pointer (some ⟨l, 0, none⟩)) ∧ w'.cell? ⟨x, 2, none⟩ = some (.pointer (some ⟨P, 0, none⟩)) ∧ w'.cell? ⟨bq, 0, none⟩ = some (.int .i64 kind) ∧ w'.cell? ⟨bq, 1, none⟩ = some (.int .i64 (m : Nat)) ∧ w'.cell? ⟨bq, 2, none⟩ = some (strV key) ∧ w'.cell? ⟨bq, 3, none⟩ = some (.bool vh) ∧ w'.cell? ⟨bq, 4, none⟩ = some (strV vd) ∧ w'.cell? ⟨hb, m * 2, none⟩ = some (.int .i64 ((G m).lsn : Nat)) ∧ w'.cell? ⟨hb, m * 2 + 1, none⟩ = some (.slice Ah (G m).cells.length ch)) (first | with_reducible exact dd | with_reducible exact d2 | with_reducible exact d3 | with_reducible exact d4 | with_reducible exact k2 | with_reducible exact k3 | with_reducible exact k4 | with_reducible exact k5)
                                (first
                                  | (go_at_call 26
                                     refine HS1.out.mono ?_
                                     rintro e w3 ⟨⟨A3, c3, rfl, hO3⟩, hU3⟩
                                     have hU3' : Upd Nowhere wc w3 := (Upd.refl Nowhere wc).drew.same hU3
                                     have k2 := EE.out w3 hU3'
                                     have k3 := EE.out _ (hU3'.alloc (.cells #[.int .i64 0, .slice none 0 0] 72))
                                     have k4 := EE.out _ (hU3'.alloc (.cells #[.int .i64 (kn : Nat), .slice A3 (setC (G m).cells key (vh, vd)).length c3] 72))
                                     have HU3 := Lib.hid hU3'
                                     have HO3 := Lib.hid hO3
                                     clear hO3
                                     clear hU3 hU3')
                                  | (go_at_call 26
                                     refine HS2.out.mono ?_
                                     rintro e w3 ⟨⟨A3, c3, rfl, hO3⟩, hU3⟩
                                     have hU3' : Upd Nowhere wc w3 := (((Upd.refl Nowhere wc).alloc (.cells #[.int .i64 0, .slice none 0 0] 72)).drew : Upd Nowhere wc (wc.alloc (.cells #[.int .i64 0, .slice none 0 0] 72)).drew).same hU3
                                     have k2 := EE.out w3 hU3'
                                     have k5 := EE.out _ ((hU3'.setCell (p := ⟨wc.heap.size, 0, none⟩) (fun h => absurd h (Nat.lt_irrefl _)) (.int .i64 (kn : Nat))).setCell (p := ⟨wc.heap.size, 1, none⟩) (fun h => absurd h (Nat.lt_irrefl _)) (.slice A3 (setC (G m).cells key (vh, vd)).length c3))
                                     have hbq := (Blk.new wc 72 #[.int .i64 0, .slice none 0 0]).drew.upd hU3 id
                                     have y0 := hbq.cell 0
                                     have y1 := hbq.cell 1
                                     have x0 := hbq.frozen 0
                                     have x1 := hbq.frozen 1
                                     simp only [List.getElem?_toArray, List.getElem?_cons_zero, List.getElem?_cons_succ] at y0 y1
                                     have HBQ := Lib.hid hbq
                                     have HU3 := Lib.hid hU3'
                                     have HO3 := Lib.hid hO3
                                     clear hO3
                                     clear hU3 hU3' hbq))
                              · go_wp2_with fail
                                go_meet
                                exact ⟨w3.heap.size, A3, c3, rfl, rfl, Blk.new _ _ _, (HO3.out.cellsE.up ((Upd.refl Nowhere w3).alloc _)), HQ8.out.up (HU3.out.alloc _)⟩
                              · go_wp2_with fail
                                go_meet
                                have hbz := (HBQ.out.set_ 0 (.int .i64 (kn : Nat))).set_ 1 (.slice A3 (setC (G m).cells key (vh, vd)).length c3)
                                simp only [List.setIfInBounds_toArray, List.set_cons_succ, List.set_cons_zero] at hbz
                                exact ⟨wc.heap.size, A3, c3, rfl, rfl, hbz, HO3.out.cellsE.upd ((Upd.one w3 wc.heap.size 0 _).same (Upd.one _ wc.heap.size 1 _)) (noC_blk HBQ.out (by decide)), HQ8.out.up ((HU3.out.setCell (p := ⟨wc.heap.size, 0, none⟩) (fun h => absurd h (Nat.lt_irrefl _)) _).setCell (p := ⟨wc.heap.size, 1, none⟩) (fun h => absurd h (Nat.lt_irrefl _)) _)⟩
                            case rest =>
                              obtain ⟨q13, A3, c3, rfl, rfl, hb13, hce7, hq7⟩ := hcut
                              have e0 := hb13.cell 0
                              have e1 := hb13.cell 1
                              have z4 := hq7.blk.cell 1
                              simp only [List.getElem?_toArray, List.getElem?_cons_zero, List.getElem?_cons_succ] at e0 e1 z4
                              obtain ⟨A7, c7, hbl7, j0', j1', jf', _⟩ := hq7.ks.hav.get HM.out
                              have f0 := jf' (m * 2)
                              have f1 := jf' (m * 2 + 1)
                              have HQ7 := Lib.hid hq7
                              have HCE7 := Lib.hid hce7
                              clear hb13 hce7 hq7 jf' jf j0 j1 dd d2 d3 d4 HS1 HS2 EE HQ8 hbl8
                              go_wp2_with fail
                              go_meet
                              refine ⟨kn, setH G m ((G m).set kn key (vh, vd)), HQ7.out.store HHB.out HM.out ((G m).set kn key (vh, vd)) HCE7.out, fun k hk => ?_⟩
                              unfold setH
                              split
                              · exact PgP.set_ok (HG.out m HM.out) HKB.out HCO.out ((roomB_iff _ _).1 HRM.out)
                              · exact HG.out k hk
                · clear hk2c
                  go_wp2_with fail
                  go_meet
                  exact ⟨top2, G, ⟨HQ2.out.ks.mono (by omega), HQ2.out.blk⟩, HG.out⟩
            case rest =>
              as_aux_lemma =>
                obtain ⟨top3, G3, hq3, hG3⟩ := hcut
                have HQ3 := Lib.hid hq3
                have HG3 := Lib.hid hG3
                have HQ8 := HQ3
                have EE : Hid (∀ W, Upd Nowhere wc W → (W.cell? ⟨x, 1, none⟩ = some (.pointer (some ⟨l, 0, none⟩)) ∧ W.cell? ⟨x, 2, none⟩ = some (.pointer (some ⟨P, 0, none⟩)) ∧ W.cell? ⟨bq, 0, none⟩ = some (.int .i64 kind) ∧ W.cell? ⟨bq, 1, none⟩ = some (.int .i64 (m : Nat)) ∧ W.cell? ⟨bq, 2, none⟩ = some (strV key) ∧ W.cell? ⟨bq, 3, none⟩ = some (.bool vh) ∧ W.cell? ⟨bq, 4, none⟩ = some (strV vd))) := Lib.hid fun W hW => (HQ8.out.up hW).cells
                have dd := EE.out wc (Upd.refl _ _)
                have d2 := EE.out wc.drew (Upd.refl Nowhere wc).drew
                have d3 := EE.out (wc.alloc (.cells #[.int .i64 0, .slice none 0 0] 72)) ((Upd.refl Nowhere wc).alloc _)
                have d4 := EE.out (wc.alloc (.cells #[.int .i64 0, .slice none 0 0] 72)).drew ((Upd.refl Nowhere wc).alloc _).drew
                have HS1 := Lib.hid ((HQ8.out.up (Upd.refl Nowhere wc).drew).ks.page (by omega) HM.out)
                have HS2 := Lib.hid ((HQ8.out.up ((Upd.refl Nowhere wc).alloc (.cells #[.int .i64 0, .slice none 0 0] 72)).drew).ks.page (by omega) HM.out)
                clear hq3 hG3 HQ2 HQ3 c3
                go_wp2_with fail
                go_cut [15, 16] (fun t15 t16 wz => ∃ (q15 : Nat) (A3 : Option Addr) (c3 : Nat), t15 = .pointer (some ⟨q15, 0, none⟩) ∧ t16 = .int .i64 0 ∧ Blk wz q15 72 #[.int .i64 ((G3 m).lsn : Nat), .slice A3 (G3 m).cells.length c3] ∧ CellsE wz (.slice A3 (G3 m).cells.length c3) (G3 m).cells ∧ KQ w w0 P l d pg fr hb x q (7 * i + 5) top3 (oneF m) G3 G3 bq ⟨kind, (m : Nat), key, vh, vd⟩ wz)
                case first =>
                  go_region_held3 (fun w' => w'.cell? ⟨x, 1, none⟩ = some (.pointer (some ⟨l, 0, none⟩)) ∧ w'.cell? ⟨x, 2, none⟩ = some (.pointer (some ⟨P, 0, none⟩)) ∧ w'.cell? ⟨bq, 0, none⟩ = some (.int .i64 kind) ∧ w'.cell? ⟨bq, 1, none⟩ = some (.int .i64 (m : Nat)) ∧ w'.cell? ⟨bq, 2, none⟩ = some (strV key) ∧ w'.cell? ⟨bq, 3, none⟩ = some (.bool vh) ∧ w'.cell? ⟨bq, 4, none⟩ = some (strV vd)) (first | with_reducible exact dd | with_reducible exact d2 | with_reducible exact d3 | with_reducible exact d4 | with_reducible exact k2 | with_reducible exact k3 | with_reducible exact k4 | with_reducible exact k5)
                    (first
                      | (go_at_call 27
                         refine HS1.out.mono ?_
                         rintro e w3 ⟨A3, c3, rfl, hO3, hU3⟩
                         have hU3' : Upd Nowhere wc w3 := (Upd.refl Nowhere wc).drew.same hU3
                         have k2 := EE.out w3 hU3'
                         have k3 := EE.out _ (hU3'.alloc (.cells #[.int .i64 0, .slice none 0 0] 72))
                         have k4 := EE.out _ (hU3'.alloc (.cells #[.int .i64 ((G3 m).lsn : Nat), .slice A3 (G3 m).cells.length c3] 72))
                         have HU3 := Lib.hid hU3'
                         have HO3 := Lib.hid hO3
                         clear hO3
                         clear hU3 hU3')
                      | (go_at_call 27
                         refine HS2.out.mono ?_
                         rintro e w3 ⟨A3, c3, rfl, hO3, hU3⟩
                         have hU3' : Upd Nowhere wc w3 := (((Upd.refl Nowhere wc).alloc (.cells #[.int .i64 0, .slice none 0 0] 72)).drew : Upd Nowhere wc (wc.alloc (.cells #[.int .i64 0, .slice none 0 0] 72)).drew).same hU3
                         have k2 := EE.out w3 hU3'
                         have k5 := EE.out _ ((hU3'.setCell (p := ⟨wc.heap.size, 0, none⟩) (fun h => absurd h (Nat.lt_irrefl _)) (.int .i64 ((G3 m).lsn : Nat))).setCell (p := ⟨wc.heap.size, 1, none⟩) (fun h => absurd h (Nat.lt_irrefl _)) (.slice A3 (G3 m).cells.length c3))
                         have hbq := (Blk.new wc 72 #[.int .i64 0, .slice none 0 0]).drew.upd hU3 id
                         have y0 := hbq.cell 0
                         have y1 := hbq.cell 1
                         have x0 := hbq.frozen 0
                         have x1 := hbq.frozen 1
                         simp only [List.getElem?_toArray, List.getElem?_cons_zero, List.getElem?_cons_succ] at y0 y1
                         have HBQ := Lib.hid hbq
                         have HU3 := Lib.hid hU3'
                         have HO3 := Lib.hid hO3
                         clear hO3
                         clear hU3 hU3' hbq))
                  · go_wp2_with fail
                    go_meet
                    exact ⟨w3.heap.size, A3, c3, rfl, rfl, Blk.new _ _ _, (HO3.out.up ((Upd.refl Nowhere w3).alloc _)), HQ8.out.up (HU3.out.alloc _)⟩
                  · go_wp2_with fail
                    go_meet
                    have hbz := (HBQ.out.set_ 0 (.int .i64 ((G3 m).lsn : Nat))).set_ 1 (.slice A3 (G3 m).cells.length c3)
                    simp only [List.setIfInBounds_toArray, List.set_cons_succ, List.set_cons_zero] at hbz
                    exact ⟨wc.heap.size, A3, c3, rfl, rfl, hbz, HO3.out.upd ((Upd.one w3 wc.heap.size 0 _).same (Upd.one _ wc.heap.size 1 _)) (noC_blk HBQ.out (by decide)), HQ8.out.up ((HU3.out.setCell (p := ⟨wc.heap.size, 0, none⟩) (fun h => absurd h (Nat.lt_irrefl _)) _).setCell (p := ⟨wc.heap.size, 1, none⟩) (fun h => absurd h (Nat.lt_irrefl _)) _)⟩
                case rest =>
                  obtain ⟨q15, A3, c3, rfl, rfl, hb15, hce5, hq5⟩ := hcut
                  clear dd d2 d3 d4 EE HS1 HS2 HQ8
                  obtain ⟨arr, hba, harr⟩ := hq5.ks.hav.ex
                  obtain ⟨Ah, ch, j0, j1, hceh⟩ := harr m HM.out
                  have HQ5 := Lib.hid hq5
                  have HB15 := Lib.hid hb15
                  have HBA := Lib.hid hba
                  have hbl : hb < wc.heap.size := hba.lt
                  have HS20 : Hid (∀ (F : Nat → Prop) W, Upd F wc W → ¬ F hb → ¬ F q15 → (W.cell? ⟨x, 1, none⟩ = some (.pointer (some ⟨l, 0, none⟩)) ∧ W.cell? ⟨x, 2, none⟩ = some (.pointer (some ⟨P, 0, none⟩)) ∧ W.cell? ⟨bq, 0, none⟩ = some (.int .i64 kind) ∧ W.cell? ⟨bq, 1, none⟩ = some (.int .i64 (m : Nat)) ∧ W.cell? ⟨bq, 2, none⟩ = some (strV key) ∧ W.cell? ⟨bq, 3, none⟩ = some (.bool vh) ∧ W.cell? ⟨bq, 4, none⟩ = some (strV vd)) → (W.cell? ⟨x, 1, none⟩ = some (.pointer (some ⟨l, 0, none⟩)) ∧ W.cell? ⟨x, 2, none⟩ = some (.pointer (some ⟨P, 0, none⟩)) ∧ W.cell? ⟨bq, 0, none⟩ = some (.int .i64 kind) ∧ W.cell? ⟨bq, 1, none⟩ = some (.int .i64 (m : Nat)) ∧ W.cell? ⟨bq, 2, none⟩ = some (strV key) ∧ W.cell? ⟨bq, 3, none⟩ = some (.bool vh) ∧ W.cell? ⟨bq, 4, none⟩ = some (strV vd) ∧ W.cell? ⟨hb, m * 2, none⟩ = some (.int .i64 ((G3 m).lsn : Nat)) ∧ W.cell? ⟨hb, m * 2 + 1, none⟩ = some (.slice Ah (G3 m).cells.length ch) ∧ W.cell? ⟨q15, 0, none⟩ = some (.int .i64 ((G3 m).lsn : Nat)) ∧ W.cell? ⟨q15, 1, none⟩ = some (.slice A3 (G3 m).cells.length c3))) := Lib.hid fun F W hW n1 n2 h => by
                    obtain ⟨i1, i2, i3, i4, i5, i6, i7⟩ := h
                    have q0 := (HB15.out.upd hW n2).cell 0
                    have q1 := (HB15.out.upd hW n2).cell 1
                    simp only [List.getElem?_toArray, List.getElem?_cons_zero, List.getElem?_cons_succ] at q0 q1
                    exact ⟨i1, i2, i3, i4, i5, i6, i7, ((HBA.out.upd hW n1).cell _).trans j0, ((HBA.out.upd hW n1).cell _).trans j1, q0, q1⟩
                  have EE : Hid (∀ W, Upd Nowhere wc W → (W.cell? ⟨x, 1, none⟩ = some (.pointer (some ⟨l, 0, none⟩)) ∧ W.cell? ⟨x, 2, none⟩ = some (.pointer (some ⟨P, 0, none⟩)) ∧ W.cell? ⟨bq, 0, none⟩ = some (.int .i64 kind) ∧ W.cell? ⟨bq, 1, none⟩ = some (.int .i64 (m : Nat)) ∧ W.cell? ⟨bq, 2, none⟩ = some (strV key) ∧ W.cell? ⟨bq, 3, none⟩ = some (.bool vh) ∧ W.cell? ⟨bq, 4, none⟩ = some (strV vd) ∧ W.cell? ⟨hb, m * 2, none⟩ = some (.int .i64 ((G3 m).lsn : Nat)) ∧ W.cell? ⟨hb, m * 2 + 1, none⟩ = some (.slice Ah (G3 m).cells.length ch) ∧ W.cell? ⟨q15, 0, none⟩ = some (.int .i64 ((G3 m).lsn : Nat)) ∧ W.cell? ⟨q15, 1, none⟩ = some (.slice A3 (G3 m).cells.length c3))) := Lib.hid fun W hW => HS20.out _ W hW id id (HQ5.out.up hW).cells
                  have HSM := Lib.hid (rsame_ok (w := wc.drew) (hce5.up (Upd.refl Nowhere wc).drew) (hceh.up (Upd.refl Nowhere wc).drew) (by have := (HG3.out m HM.out).len; omega) ((G3 m).lsn : Nat))
                  have HUN : Hid (∀ W, Upd Nowhere wc W → Calls Tryz.prog 29 #[.pointer (some ⟨P, 0, none⟩), .int .i64 (m : Nat)] W fun e w' => e = .returned (.int .i64 0) ∧ KQ w w0 P l d pg fr hb x q (7 * i + 5) top3 noF G3 G3 bq ⟨kind, (m : Nat), key, vh, vd⟩ w' ∧ (w'.cell? ⟨x, 1, none⟩ = some (.pointer (some ⟨l, 0, none⟩)) ∧ w'.cell? ⟨x, 2, none⟩ = some (.pointer (some ⟨P, 0, none⟩)) ∧ w'.cell? ⟨bq, 0, none⟩ = some (.int .i64 kind) ∧ w'.cell? ⟨bq, 1, none⟩ = some (.int .i64 (m : Nat)) ∧ w'.cell? ⟨bq, 2, none⟩ = some (strV key) ∧ w'.cell? ⟨bq, 3, none⟩ = some (.bool vh) ∧ w'.cell? ⟨bq, 4, none⟩ = some (strV vd) ∧ w'.cell? ⟨hb, m * 2, none⟩ = some (.int .i64 ((G3 m).lsn : Nat)) ∧ w'.cell? ⟨hb, m * 2 + 1, none⟩ = some (.slice Ah (G3 m).cells.length ch) ∧ w'.cell? ⟨q15, 0, none⟩ = some (.int .i64 ((G3 m).lsn : Nat)) ∧ w'.cell? ⟨q15, 1, none⟩ = some (.slice A3 (G3 m).cells.length c3))) := Lib.hid fun W hW => by
                    have hqW := HQ5.out.up hW
                    refine (hqW.ks.unpin (by omega) HM.out).mono ?_
                    rintro e w' ⟨rfl, hK, hu⟩
                    have hq' := hqW.pool hu hK
                    refine ⟨rfl, hq', ?_⟩
                    have q0 := ((HB15.out.upd hW id).upd hu ((HB15.out.upd hW id).noPool rfl)).cell 0
                    have q1 := ((HB15.out.upd hW id).upd hu ((HB15.out.upd hW id).noPool rfl)).cell 1
                    have b2 := (HBA.out.upd hW id).upd hu ((HBA.out.upd hW id).noPool rfl)
                    simp only [List.getElem?_toArray, List.getElem?_cons_zero, List.getElem?_cons_succ] at q0 q1
                    obtain ⟨i1, i2, i3, i4, i5, i6, i7⟩ := hq'.cells
                    exact ⟨i1, i2, i3, i4, i5, i6, i7, (b2.cell _).trans j0, (b2.cell _).trans j1, q0, q1⟩
                  have dd := EE.out wc (Upd.refl _ _)
                  have d2 := EE.out wc.drew (Upd.refl Nowhere wc).drew
                  have g2 : (m : Int) < (pg : Int) := by have := HM.out; omega
                  clear hb15 hce5 hq5 hba harr hceh j0 j1
                  go_wp2_with fail
                  go_cut [141] (fun t141 wz => t141 = .bool false ∧ KQ w w0 P l d pg fr hb x q (7 * i + 5) top3 noF G3 G3 bq ⟨kind, (m : Nat), key, vh, vd⟩ wz)
                  case first =>
                    go_region_held3 (fun w' => w'.cell? ⟨x, 1, none⟩ = some (.pointer (some ⟨l, 0, none⟩)) ∧ w'.cell? ⟨x, 2, none⟩ = some (.pointer (some ⟨P, 0, none⟩)) ∧ w'.cell? ⟨bq, 0, none⟩ = some (.int .i64 kind) ∧ w'.cell? ⟨bq, 1, none⟩ = some (.int .i64 (m : Nat)) ∧ w'.cell? ⟨bq, 2, none⟩ = some (strV key) ∧ w'.cell? ⟨bq, 3, none⟩ = some (.bool vh) ∧ w'.cell? ⟨bq, 4, none⟩ = some (strV vd) ∧ w'.cell? ⟨hb, m * 2, none⟩ = some (.int .i64 ((G3 m).lsn : Nat)) ∧ w'.cell? ⟨hb, m * 2 + 1, none⟩ = some (.slice Ah (G3 m).cells.length ch) ∧ w'.cell? ⟨q15, 0, none⟩ = some (.int .i64 ((G3 m).lsn : Nat)) ∧ w'.cell? ⟨q15, 1, none⟩ = some (.slice A3 (G3 m).cells.length c3)) (first | with_reducible exact dd | with_reducible exact d2 | with_reducible exact k2 | with_reducible exact k3)
                      (first
                        | (go_at_call 28
                           refine HSM.out.mono ?_
                           rintro e w3 ⟨rfl, hU3⟩
                           have hU3' : Upd Nowhere wc w3 := (Upd.refl Nowhere wc).drew.same hU3
                           have k2 := EE.out w3 hU3'
                           have HU3 := Lib.hid hU3'
                           clear hU3 hU3')
                        | (go_at_call 29
                           refine (HUN.out _ HU3.out).mono ?_
                           rintro e w4 ⟨rfl, hq4, k3⟩
                           have HQ4 := Lib.hid hq4
                           clear hq4))
                    all_goals
                      go_wp2_with fail
                      go_meet
                      exact ⟨rfl, HQ4.out⟩
                  case rest =>
                    obtain ⟨rfl, hq4⟩ := hcut
                    clear dd d2 EE HSM HUN HS20 HQ5 HB15 HBA hbl g2
                    have HQ4 := Lib.hid hq4
                    have EE : Hid (∀ W, Upd Nowhere wc W → (W.cell? ⟨x, 1, none⟩ = some (.pointer (some ⟨l, 0, none⟩)) ∧ W.cell? ⟨x, 2, none⟩ = some (.pointer (some ⟨P, 0, none⟩)) ∧ W.cell? ⟨bq, 0, none⟩ = some (.int .i64 kind) ∧ W.cell? ⟨bq, 1, none⟩ = some (.int .i64 (m : Nat)) ∧ W.cell? ⟨bq, 2, none⟩ = some (strV key) ∧ W.cell? ⟨bq, 3, none⟩ = some (.bool vh) ∧ W.cell? ⟨bq, 4, none⟩ = some (strV vd))) := Lib.hid fun W hW => (HQ4.out.up hW).cells
                    have dd := EE.out wc (Upd.refl _ _)
                    have d2 := EE.out wc.drew (Upd.refl Nowhere wc).drew
                    have hev := (hq4.up (Upd.refl Nowhere wc).drew).ks.evict (by omega) HM.out
                    have HEV := Lib.hid hev
                    clear hq4 hev
                    go_wp2_with fail
                    go_cut [155] (fun t155 wz => t155 = .bool false ∧ ∃ top4, KQ w w0 P l d pg fr hb x q (7 * i + 7) top4 noF G3 G3 bq ⟨kind, (m : Nat), key, vh, vd⟩ wz)
                    case first =>
                      by_cases hk3 : Int.tmod kind 3 = 0
                      · go_region_held3 (fun w' => w'.cell? ⟨x, 1, none⟩ = some (.pointer (some ⟨l, 0, none⟩)) ∧ w'.cell? ⟨x, 2, none⟩ = some (.pointer (some ⟨P, 0, none⟩)) ∧ w'.cell? ⟨bq, 0, none⟩ = some (.int .i64 kind) ∧ w'.cell? ⟨bq, 1, none⟩ = some (.int .i64 (m : Nat)) ∧ w'.cell? ⟨bq, 2, none⟩ = some (strV key) ∧ w'.cell? ⟨bq, 3, none⟩ = some (.bool vh) ∧ w'.cell? ⟨bq, 4, none⟩ = some (strV vd)) (first | with_reducible exact dd | with_reducible exact d2 | with_reducible exact k2)
                          (first
                            | (go_at_call 30
                               refine HEV.out.mono ?_
                               rintro e w2 ⟨rfl, ⟨top4, hK2⟩, hu2⟩
                               have hq2 := (HQ4.out.up (Upd.refl Nowhere wc).drew).pool hu2 hK2
                               have k2 : w2.cell? ⟨x, 1, none⟩ = some (.pointer (some ⟨l, 0, none⟩)) ∧ w2.cell? ⟨x, 2, none⟩ = some (.pointer (some ⟨P, 0, none⟩)) ∧ w2.cell? ⟨bq, 0, none⟩ = some (.int .i64 kind) ∧ w2.cell? ⟨bq, 1, none⟩ = some (.int .i64 (m : Nat)) ∧ w2.cell? ⟨bq, 2, none⟩ = some (strV key) ∧ w2.cell? ⟨bq, 3, none⟩ = some (.bool vh) ∧ w2.cell? ⟨bq, 4, none⟩ = some (strV vd) := hq2.cells
                               have HQ2 := Lib.hid hq2
                               clear hK2 hu2 hq2))
                        all_goals
                          go_wp2_with fail
                          go_meet
                          exact ⟨rfl, top4, ⟨HQ2.out.ks.mono (by omega), HQ2.out.blk⟩⟩
                      · clear dd d2
                        refine wp_region_grown (w0 := wc) (by kernel_rfl) (by kernel_rfl) (Upd.refl _ _) ?_
                        go_big_quiet_want
                        refine quiet_val (v := .pointer (some ⟨bq, 0, none⟩)) (fun w' hw' => by go_simp) ?_
                        go_simp
                        go_big_quiet_on
                        go_big_quiet_want
                        refine quiet_val (v := .int .i64 kind) (fun w' hw' => by obtain ⟨i1, i2, i3, i4, i5, i6, i7⟩ := EE.out w' hw'; go_simp) ?_
                        go_simp
                        go_big_quiet_on
                        go_big_quiet_want
                        refine quiet_val (v := .int .i64 (Int.tmod kind 3)) (fun w' hw' => by go_simp) ?_
                        go_simp
                        go_big_quiet_on
                        go_big_quiet_want
                        refine quiet_val (v := .bool false) (fun w' hw' => by go_simp) ?_
                        go_simp
                        go_big_quiet_on
                        go_big_quiet_want
                        refine BigFrame.quiet_move (.tmp 145) rfl ?_
                        go_simp
                        go_big_quiet_on
                        go_big_quiet_skip
                        go_big_quiet_skip
                        go_big_quiet_skip
                        go_big_quiet_skip
                        go_big_quiet_skip
                        go_big_quiet_skip
                        go_big_quiet_skip
                        go_big_quiet_skip
                        go_big_quiet_want
                        refine quiet_val (v := .bool false) (fun w' hw' => by go_simp) ?_
                        go_simp
                        go_big_quiet_on
                        refine wpQuiet_nil ?_
                        intro w9 hw9
                        have HQ9 := Lib.hid (HQ4.out.up hw9)
                        clear hw9
                        go_wp2_with fail
                        go_meet
                        exact ⟨rfl, top3, ⟨HQ9.out.ks.mono (by omega), HQ9.out.blk⟩⟩
                    case rest =>
                      obtain ⟨rfl, top4, hq2⟩ := hcut
                      have HQ2 := Lib.hid hq2
                      clear hq2 dd d2
                      go_wp2_with fail
                      go_roundw
                      case rel => exact ⟨i + 1, top4, G3, by go_num, by omega, HQ2.out.ks.mono (by omega), HG3.out⟩
                      case measure => simp [intOf]; omega
        · clear hK hE2 hx hco
          by_cases hn0 : n < 0
          · have hq := Blk.new wr 61 #[.int .i64 kind, .int .i64 n, strV key, .bool vh, strV vd]
            have z4 := hq.cell 1
            simp only [List.getElem?_toArray, List.getElem?_cons_zero, List.getElem?_cons_succ] at z4
            clear hq
            go_wp2_with fail
            go_roundw
            case rel => exact ⟨i + 1, top, G, by go_num, by omega, (HK.out.up ((Upd.refl Nowhere wr).alloc _)).mono (by omega), HG.out⟩
            case measure => simp [intOf]; omega
          · have hn1 : ¬ n < (pg : Int) := by omega
            have hq := Blk.new wr 61 #[.int .i64 kind, .int .i64 n, strV key, .bool vh, strV vd]
            have z4 := hq.cell 1
            simp only [List.getElem?_toArray, List.getElem?_cons_zero, List.getElem?_cons_succ] at z4
            clear hq
            go_wp2_with fail
            go_roundw
            case rel => exact ⟨i + 1, top, G, by go_num, by omega, (HK.out.up ((Upd.refl Nowhere wr).alloc _)).mono (by omega), HG.out⟩
            case measure => simp [intOf]; omega
      · have e : i = N := by omega
        subst e
        have hii : ¬ (i : Int) < (i : Int) := by omega
        clear hK
        obtain ⟨p, S, T, M, h1, _⟩ := HK.out.ex
        have HH := Lib.hid h1.half
        have HHZ : Hid (0 < wr.heap.size) := Lib.hid h1.half.lt
        have HLW : Hid (w.heap.size ≤ wr.heap.size) := Lib.hid HK.out.upd.size
        clear h1
        go_wp2_with fail
        refine (awake_ok HH.out HHZ.out).mono ?_
        rintro e w9 ⟨rfl, hu9⟩
        have HU9 : Hid (Upd (fun k => w.heap.size ≤ k) w w9) := Lib.hid (HK.out.upd.same (hu9.mono fun _ _ e => Nat.le_trans HLW.out e))
        clear hu9
        go_wp2_with fail
        go_ret
        exact ⟨rfl, HU9.out⟩
end Go.Proofs.YtdfccegeihfdpaaGreatDoor
