/-
  PoolFrames: play.does on a document's pool of no frames, for the calls that the law leaves to it.
-/
import Derived.Test.YtdfccegeihfdpaaGreatDoorPkG
namespace Go.Proofs.YtdfccegeihfdpaaGreatDoor
open Go Go.RowKit

section
variable {w w1 wr : World} {P l d pg fr x q pb c : Nat} {f g : Nat → Nat} {kind n : Int} {key : Bs} {vh : Bool} {vd : Bs}
set_option maxRecDepth 100000 in
set_option maxHeartbeats 8000000 in
theorem KX.does2 (h : KX w w1 P l d pg fr x q pb c f f wr) (hc : c ≤ 980) (hk : CellOK (key, (vh, vd))) : Calls Tryz.prog 31 #[.pointer (some ⟨x, 0, none⟩), .agg #[.int .i64 2, .int .i64 n, strV key, .bool vh, strV vd]] wr fun e w' => ∃ b, e = .returned (.bool b) ∧ KX w w1 P l d pg fr x q pb (c + 2) f f w' := by
  obtain ⟨bq, hbq⟩ : ∃ bq, wr.heap.size = bq := ⟨_, rfl⟩
  have hq : KY w w1 P l d pg fr x q pb c f f bq ⟨2, n, key, vh, vd⟩ (wr.alloc (.cells #[.int .i64 2, .int .i64 n, strV key, .bool vh, strV vd] 61)) := ⟨h.up ((Upd.refl Nowhere wr).alloc _), hbq ▸ Blk.new wr _ _⟩
  obtain ⟨wA, hwA⟩ : ∃ wA, wr.alloc (.cells #[.int .i64 2, .int .i64 n, strV key, .bool vh, strV vd] 61) = wA := ⟨_, rfl⟩
  rw [hwA] at hq
  have z : KYc P l x q bq ⟨2, n, key, vh, vd⟩ wA := hq.cells
  obtain ⟨z1, z2, z3, z4, z5, z6, z7, z8⟩ := z
  simp only at z4 z5 z6 z7 z8
  have HQ := Lib.hid hq
  have HCH := Lib.hid (hq.kx.changes (kind := 2) (n := n) hc hk)
  clear h hc hk hq HQ
  go_enter Tryz.func31, Tryz.ntmps31
  go_wp2_with fail
  refine HCH.out.mono ?_
  rintro e w2 ⟨b, rfl, hK⟩
  have HK2 := Lib.hid hK
  clear hK
  go_wp2_with fail
  go_ret
  exact ⟨_, rfl, HK2.out.mono (by omega)⟩
set_option maxRecDepth 100000 in
set_option maxHeartbeats 8000000 in
theorem KX.does3 (h : KX w w1 P l d pg fr x q pb c f f wr) (hc : c ≤ 980) : Calls Tryz.prog 31 #[.pointer (some ⟨x, 0, none⟩), .agg #[.int .i64 3, .int .i64 n, strV key, .bool vh, strV vd]] wr fun e w' => ∃ b, e = .returned (.bool b) ∧ KX w w1 P l d pg fr x q pb (c + 2) f f w' := by
  obtain ⟨bq, hbq⟩ : ∃ bq, wr.heap.size = bq := ⟨_, rfl⟩
  have hq : KY w w1 P l d pg fr x q pb c f f bq ⟨3, n, key, vh, vd⟩ (wr.alloc (.cells #[.int .i64 3, .int .i64 n, strV key, .bool vh, strV vd] 61)) := ⟨h.up ((Upd.refl Nowhere wr).alloc _), hbq ▸ Blk.new wr _ _⟩
  obtain ⟨wA, hwA⟩ : ∃ wA, wr.alloc (.cells #[.int .i64 3, .int .i64 n, strV key, .bool vh, strV vd] 61) = wA := ⟨_, rfl⟩
  rw [hwA] at hq
  have z : KYc P l x q bq ⟨3, n, key, vh, vd⟩ wA := hq.cells
  obtain ⟨z1, z2, z3, z4, z5, z6, z7, z8⟩ := z
  simp only at z4 z5 z6 z7 z8
  have HQ := Lib.hid hq
  have dd : wA.cell? ⟨x, 1, none⟩ = some (.pointer (some ⟨l, 0, none⟩)) ∧ wA.cell? ⟨x, 2, none⟩ = some (.pointer (some ⟨P, 0, none⟩)) ∧ wA.cell? ⟨x, 3, none⟩ = some (.pointer (some ⟨q, 0, none⟩)) ∧ wA.cell? ⟨bq, 0, none⟩ = some (.int .i64 3) ∧ wA.cell? ⟨bq, 1, none⟩ = some (.int .i64 n) ∧ wA.cell? ⟨bq, 2, none⟩ = some (strV key) ∧ wA.cell? ⟨bq, 3, none⟩ = some (.bool vh) ∧ wA.cell? ⟨bq, 4, none⟩ = some (strV vd) := hq.cells
  have d2 : wA.drew.cell? ⟨x, 1, none⟩ = some (.pointer (some ⟨l, 0, none⟩)) ∧ wA.drew.cell? ⟨x, 2, none⟩ = some (.pointer (some ⟨P, 0, none⟩)) ∧ wA.drew.cell? ⟨x, 3, none⟩ = some (.pointer (some ⟨q, 0, none⟩)) ∧ wA.drew.cell? ⟨bq, 0, none⟩ = some (.int .i64 3) ∧ wA.drew.cell? ⟨bq, 1, none⟩ = some (.int .i64 n) ∧ wA.drew.cell? ⟨bq, 2, none⟩ = some (strV key) ∧ wA.drew.cell? ⟨bq, 3, none⟩ = some (.bool vh) ∧ wA.drew.cell? ⟨bq, 4, none⟩ = some (strV vd) := (hq.up (Upd.refl Nowhere wA).drew).cells
  have HCH := Lib.hid ((hq.up (Upd.refl Nowhere wA).drew).kx.flush hc n)
  obtain ⟨er, her⟩ : ∃ er : Int, (if inR pg n then 0 else 1 : Int) = er := ⟨_, rfl⟩
  clear h hc hq
  go_enter Tryz.func31, Tryz.ntmps31
  go_wp2_with fail
  go_region_held3 (fun w' => w'.cell? ⟨x, 1, none⟩ = some (.pointer (some ⟨l, 0, none⟩)) ∧ w'.cell? ⟨x, 2, none⟩ = some (.pointer (some ⟨P, 0, none⟩)) ∧ w'.cell? ⟨x, 3, none⟩ = some (.pointer (some ⟨q, 0, none⟩)) ∧ w'.cell? ⟨bq, 0, none⟩ = some (.int .i64 3) ∧ w'.cell? ⟨bq, 1, none⟩ = some (.int .i64 n) ∧ w'.cell? ⟨bq, 2, none⟩ = some (strV key) ∧ w'.cell? ⟨bq, 3, none⟩ = some (.bool vh) ∧ w'.cell? ⟨bq, 4, none⟩ = some (strV vd)) (first | with_reducible exact dd | with_reducible exact d2 | with_reducible exact k2)
    (first
      | (go_at_call 43
         refine HCH.out.mono ?_
         rintro e w2 ⟨y2, rfl, hK2, hu2⟩
         have hq2 := (HQ.out.up (Upd.refl Nowhere wA).drew).pool hu2 hK2
         have k2 : w2.cell? ⟨x, 1, none⟩ = some (.pointer (some ⟨l, 0, none⟩)) ∧ w2.cell? ⟨x, 2, none⟩ = some (.pointer (some ⟨P, 0, none⟩)) ∧ w2.cell? ⟨x, 3, none⟩ = some (.pointer (some ⟨q, 0, none⟩)) ∧ w2.cell? ⟨bq, 0, none⟩ = some (.int .i64 3) ∧ w2.cell? ⟨bq, 1, none⟩ = some (.int .i64 n) ∧ w2.cell? ⟨bq, 2, none⟩ = some (strV key) ∧ w2.cell? ⟨bq, 3, none⟩ = some (.bool vh) ∧ w2.cell? ⟨bq, 4, none⟩ = some (strV vd) := hq2.cells
         obtain ⟨fo2, hr2⟩ := hK2.ref
         have hrc := rflush_e hr2 n
         rw [her] at hrc
         have HRC := Lib.hid hrc
         have HQ2 := Lib.hid hq2
         clear hK2 hu2 hq2 hr2 hrc)
      | (go_at_call 89
         refine HRC.out.mono ?_
         rintro e w3 ⟨rfl, hw3⟩
         obtain rfl : w2 = w3 := hw3.symm))
  all_goals
    go_wp2_with fail
    go_ret
    exact ⟨_, rfl, HQ2.out.kx⟩
set_option maxRecDepth 100000 in
set_option maxHeartbeats 8000000 in
theorem KX.does5 (h : KX w w1 P l d pg fr x q pb c f f wr) (hc : c ≤ 980) : Calls Tryz.prog 31 #[.pointer (some ⟨x, 0, none⟩), .agg #[.int .i64 5, .int .i64 n, strV key, .bool vh, strV vd]] wr fun e w' => ∃ b, e = .returned (.bool b) ∧ KX w w1 P l d pg fr x q pb (c + 2) f f w' := by
  obtain ⟨bq, hbq⟩ : ∃ bq, wr.heap.size = bq := ⟨_, rfl⟩
  have hq : KY w w1 P l d pg fr x q pb c f f bq ⟨5, n, key, vh, vd⟩ (wr.alloc (.cells #[.int .i64 5, .int .i64 n, strV key, .bool vh, strV vd] 61)) := ⟨h.up ((Upd.refl Nowhere wr).alloc _), hbq ▸ Blk.new wr _ _⟩
  obtain ⟨wA, hwA⟩ : ∃ wA, wr.alloc (.cells #[.int .i64 5, .int .i64 n, strV key, .bool vh, strV vd] 61) = wA := ⟨_, rfl⟩
  rw [hwA] at hq
  have z : KYc P l x q bq ⟨5, n, key, vh, vd⟩ wA := hq.cells
  obtain ⟨z1, z2, z3, z4, z5, z6, z7, z8⟩ := z
  simp only at z4 z5 z6 z7 z8
  have HQ := Lib.hid hq
  have EE : Hid (∀ W, Upd Nowhere wA W → (W.cell? ⟨x, 1, none⟩ = some (.pointer (some ⟨l, 0, none⟩)) ∧ W.cell? ⟨x, 2, none⟩ = some (.pointer (some ⟨P, 0, none⟩)) ∧ W.cell? ⟨x, 3, none⟩ = some (.pointer (some ⟨q, 0, none⟩)) ∧ W.cell? ⟨bq, 0, none⟩ = some (.int .i64 5) ∧ W.cell? ⟨bq, 1, none⟩ = some (.int .i64 n) ∧ W.cell? ⟨bq, 2, none⟩ = some (strV key) ∧ W.cell? ⟨bq, 3, none⟩ = some (.bool vh) ∧ W.cell? ⟨bq, 4, none⟩ = some (strV vd))) := Lib.hid fun W hW => (HQ.out.up hW).cells
  have HS : Hid (∀ W, Upd Nowhere wA W → Calls Tryz.prog 27 #[.pointer (some ⟨P, 0, none⟩), .int .i64 n] W fun e w' => ∃ (lsn : Int) (L : Cl) (A : Option Addr) (c0 : Nat) (y : Int), e = .returned (.tuple #[.agg #[.int .i64 lsn, .slice A L.length c0], .int .i64 y]) ∧ CellsE w' (.slice A L.length c0) L ∧ (y ≠ 0 → lsn = 0 ∧ L = []) ∧ Upd Nowhere W w') := Lib.hid fun W hW => (HQ.out.up hW).kx.page hc n
  have hnz := errR_nz pg n
  obtain ⟨er, her⟩ : ∃ er, errR pg n = er := ⟨_, rfl⟩
  rw [her] at hnz
  have dd := EE.out wA (Upd.refl _ _)
  have d2 := EE.out wA.drew (Upd.refl Nowhere wA).drew
  have d3 := EE.out (wA.alloc (.cells #[.int .i64 0, .slice none 0 0] 72)) ((Upd.refl Nowhere wA).alloc _)
  have d4 := EE.out (wA.alloc (.cells #[.int .i64 0, .slice none 0 0] 72)).drew ((Upd.refl Nowhere wA).alloc _).drew
  have HU0 : Hid (Upd Nowhere wA (wA.alloc (.cells #[.int .i64 0, .slice none 0 0] 72)).drew) := Lib.hid ((Upd.refl Nowhere wA).alloc (.cells #[.int .i64 0, .slice none 0 0] 72)).drew
  clear h hc hq
  go_enter Tryz.func31, Tryz.ntmps31
  go_wp2_with fail
  go_cut [5, 6] (fun t5 t6 wz => ∃ (r5 : Nat) (lsn : Int) (L : Cl) (A : Option Addr) (c0 : Nat) (y : Int), t5 = .pointer (some ⟨r5, 0, none⟩) ∧ t6 = .int .i64 y ∧ Blk wz r5 72 #[.int .i64 lsn, .slice A L.length c0] ∧ CellsE wz (.slice A L.length c0) L ∧ (y ≠ 0 → lsn = 0 ∧ L = []) ∧ KY w w1 P l d pg fr x q pb c f f bq ⟨5, n, key, vh, vd⟩ wz)
  case first =>
    go_region_held3 (fun w' => w'.cell? ⟨x, 1, none⟩ = some (.pointer (some ⟨l, 0, none⟩)) ∧ w'.cell? ⟨x, 2, none⟩ = some (.pointer (some ⟨P, 0, none⟩)) ∧ w'.cell? ⟨x, 3, none⟩ = some (.pointer (some ⟨q, 0, none⟩)) ∧ w'.cell? ⟨bq, 0, none⟩ = some (.int .i64 5) ∧ w'.cell? ⟨bq, 1, none⟩ = some (.int .i64 n) ∧ w'.cell? ⟨bq, 2, none⟩ = some (strV key) ∧ w'.cell? ⟨bq, 3, none⟩ = some (.bool vh) ∧ w'.cell? ⟨bq, 4, none⟩ = some (strV vd)) (first | with_reducible exact dd | with_reducible exact d2 | with_reducible exact d3 | with_reducible exact d4 | with_reducible exact k2 | with_reducible exact k3 | with_reducible exact k4 | with_reducible exact k5)
      (first
        | (go_at_call 27
           refine (HS.out wA.drew (Upd.refl Nowhere wA).drew).mono ?_
           rintro e w3 ⟨lsn, L, A3, c3, y, rfl, hO3, hy, hU3⟩
           have hU3' : Upd Nowhere wA w3 := (Upd.refl Nowhere wA).drew.same hU3
           have k2 := EE.out w3 hU3'
           have k3 := EE.out _ (hU3'.alloc (.cells #[.int .i64 0, .slice none 0 0] 72))
           have k4 := EE.out _ (hU3'.alloc (.cells #[.int .i64 lsn, .slice A3 L.length c3] 72))
           have HU3 := Lib.hid hU3'
           have HO3 := Lib.hid hO3
           have HY := Lib.hid hy
           clear hU3 hU3' hO3 hy)
        | (go_at_call 27
           refine (HS.out _ HU0.out).mono ?_
           rintro e w3 ⟨lsn, L, A3, c3, y, rfl, hO3, hy, hU3⟩
           have hU3' : Upd Nowhere wA w3 := HU0.out.same hU3
           have k2 := EE.out w3 hU3'
           have k5 := EE.out _ ((hU3'.setCell (p := ⟨wA.heap.size, 0, none⟩) (fun h => absurd h (Nat.lt_irrefl _)) (.int .i64 lsn)).setCell (p := ⟨wA.heap.size, 1, none⟩) (fun h => absurd h (Nat.lt_irrefl _)) (.slice A3 L.length c3))
           have hbq5 := (Blk.new wA 72 #[.int .i64 0, .slice none 0 0]).drew.upd hU3 id
           have y0 := hbq5.cell 0
           have y1 := hbq5.cell 1
           have x0 := hbq5.frozen 0
           have x1 := hbq5.frozen 1
           simp only [List.getElem?_toArray, List.getElem?_cons_zero, List.getElem?_cons_succ] at y0 y1
           have HBQ := Lib.hid hbq5
           have HU3 := Lib.hid hU3'
           have HO3 := Lib.hid hO3
           have HY := Lib.hid hy
           clear hU3 hU3' hO3 hy hbq5))
    · go_wp2_with fail
      go_meet
      exact ⟨w3.heap.size, lsn, L, A3, c3, y, rfl, rfl, Blk.new _ _ _, HO3.out.up ((Upd.refl Nowhere w3).alloc _), HY.out, HQ.out.up (HU3.out.alloc _)⟩
    · go_wp2_with fail
      go_meet
      have hbz := (HBQ.out.set_ 0 (.int .i64 lsn)).set_ 1 (.slice A3 L.length c3)
      simp only [List.setIfInBounds_toArray, List.set_cons_succ, List.set_cons_zero] at hbz
      exact ⟨wA.heap.size, lsn, L, A3, c3, y, rfl, rfl, hbz, HO3.out.upd ((Upd.one w3 wA.heap.size 0 _).same (Upd.one _ wA.heap.size 1 _)) (noC_blk HBQ.out (by decide)), HY.out, HQ.out.up ((HU3.out.setCell (p := ⟨wA.heap.size, 0, none⟩) (fun h => absurd h (Nat.lt_irrefl _)) _).setCell (p := ⟨wA.heap.size, 1, none⟩) (fun h => absurd h (Nat.lt_irrefl _)) _)⟩
  case rest =>
    obtain ⟨r5, lsn, L, A5, c5, y, rfl, rfl, hb5, hce5, hy, hq5⟩ := hcut
    clear dd d2 d3 d4 HS EE HU0 z1 z2 z3 z4 z5 z6 z7 z8 HQ
    have HQ := Lib.hid hq5
    have HB5 := Lib.hid hb5
    have HCE := Lib.hid hce5
    have HY := Lib.hid hy
    have EE : Hid (∀ W, Upd Nowhere wc W → (W.cell? ⟨x, 1, none⟩ = some (.pointer (some ⟨l, 0, none⟩)) ∧ W.cell? ⟨x, 2, none⟩ = some (.pointer (some ⟨P, 0, none⟩)) ∧ W.cell? ⟨x, 3, none⟩ = some (.pointer (some ⟨q, 0, none⟩)) ∧ W.cell? ⟨bq, 0, none⟩ = some (.int .i64 5) ∧ W.cell? ⟨bq, 1, none⟩ = some (.int .i64 n) ∧ W.cell? ⟨bq, 2, none⟩ = some (strV key) ∧ W.cell? ⟨bq, 3, none⟩ = some (.bool vh) ∧ W.cell? ⟨bq, 4, none⟩ = some (strV vd))) := Lib.hid fun W hW => (HQ.out.up hW).cells
    have HS : Hid (∀ W, Upd Nowhere wc W → Calls Tryz.prog 91 #[.pointer (some ⟨q, 0, none⟩), .int .i64 n] W fun e w' => e = .returned (.tuple #[.agg #[.int .i64 0, .slice none 0 0], .int .i64 er]) ∧ Upd Nowhere W w') := Lib.hid fun W hW => by
      obtain ⟨fo, hr⟩ := (HQ.out.up hW).kx.ref
      rw [← her]
      exact rpage_e hr n
    have dd := EE.out wc (Upd.refl _ _)
    have d2 := EE.out wc.drew (Upd.refl Nowhere wc).drew
    have d3 := EE.out (wc.alloc (.cells #[.int .i64 0, .slice none 0 0] 72)) ((Upd.refl Nowhere wc).alloc _)
    have d4 := EE.out (wc.alloc (.cells #[.int .i64 0, .slice none 0 0] 72)).drew ((Upd.refl Nowhere wc).alloc _).drew
    have HU0 : Hid (Upd Nowhere wc (wc.alloc (.cells #[.int .i64 0, .slice none 0 0] 72)).drew) := Lib.hid ((Upd.refl Nowhere wc).alloc (.cells #[.int .i64 0, .slice none 0 0] 72)).drew
    clear hq5 hb5 hce5 hy
    go_wp2_with fail
    go_cut [7, 8] (fun t7 t8 wz => ∃ r7 : Nat, t7 = .pointer (some ⟨r7, 0, none⟩) ∧ t8 = .int .i64 er ∧ Blk wz r7 72 #[.int .i64 0, .slice none 0 0] ∧ Upd Nowhere wc wz)
    case first =>
      go_region_held3 (fun w' => w'.cell? ⟨x, 1, none⟩ = some (.pointer (some ⟨l, 0, none⟩)) ∧ w'.cell? ⟨x, 2, none⟩ = some (.pointer (some ⟨P, 0, none⟩)) ∧ w'.cell? ⟨x, 3, none⟩ = some (.pointer (some ⟨q, 0, none⟩)) ∧ w'.cell? ⟨bq, 0, none⟩ = some (.int .i64 5) ∧ w'.cell? ⟨bq, 1, none⟩ = some (.int .i64 n) ∧ w'.cell? ⟨bq, 2, none⟩ = some (strV key) ∧ w'.cell? ⟨bq, 3, none⟩ = some (.bool vh) ∧ w'.cell? ⟨bq, 4, none⟩ = some (strV vd)) (first | with_reducible exact dd | with_reducible exact d2 | with_reducible exact d3 | with_reducible exact d4 | with_reducible exact k2 | with_reducible exact k3 | with_reducible exact k5)
        (first
          | (go_at_call 91
             refine (HS.out wc.drew (Upd.refl Nowhere wc).drew).mono ?_
             rintro e w3 ⟨rfl, hU3⟩
             have hU3' : Upd Nowhere wc w3 := (Upd.refl Nowhere wc).drew.same hU3
             have k2 := EE.out w3 hU3'
             have k3 := EE.out _ (hU3'.alloc (.cells #[.int .i64 0, .slice none 0 0] 72))
             have HU3 := Lib.hid hU3'
             clear hU3 hU3')
          | (go_at_call 91
             refine (HS.out _ HU0.out).mono ?_
             rintro e w3 ⟨rfl, hU3⟩
             have hU3' : Upd Nowhere wc w3 := HU0.out.same hU3
             have k2 := EE.out w3 hU3'
             have k5 := EE.out _ ((hU3'.setCell (p := ⟨wc.heap.size, 0, none⟩) (fun h => absurd h (Nat.lt_irrefl _)) (.int .i64 0)).setCell (p := ⟨wc.heap.size, 1, none⟩) (fun h => absurd h (Nat.lt_irrefl _)) (.slice none 0 0))
             have hbq5 := (Blk.new wc 72 #[.int .i64 0, .slice none 0 0]).drew.upd hU3 id
             have y0 := hbq5.cell 0
             have y1 := hbq5.cell 1
             have x0 := hbq5.frozen 0
             have x1 := hbq5.frozen 1
             simp only [List.getElem?_toArray, List.getElem?_cons_zero, List.getElem?_cons_succ] at y0 y1
             have HBQ := Lib.hid hbq5
             have HU3 := Lib.hid hU3'
             clear hU3 hU3' hbq5))
      · go_wp2_with fail
        go_meet
        exact ⟨w3.heap.size, rfl, rfl, Blk.new _ _ _, HU3.out.alloc _⟩
      · go_wp2_with fail
        go_meet
        have hbz := (HBQ.out.set_ 0 (.int .i64 0)).set_ 1 (.slice none 0 0)
        simp only [List.setIfInBounds_toArray, List.set_cons_succ, List.set_cons_zero] at hbz
        exact ⟨wc.heap.size, rfl, rfl, hbz, (HU3.out.setCell (p := ⟨wc.heap.size, 0, none⟩) (fun h => absurd h (Nat.lt_irrefl _)) _).setCell (p := ⟨wc.heap.size, 1, none⟩) (fun h => absurd h (Nat.lt_irrefl _)) _⟩
    case rest =>
      rename_i wb _ _ _ _ _
      obtain ⟨r7, rfl, rfl, hb7, hu7⟩ := hcut
      clear dd d2 d3 d4 HS EE HU0
      have HQ7 := Lib.hid (HQ.out.up hu7)
      have c50 := (HB5.out.upd hu7 id).cell 0
      have c51 := (HB5.out.upd hu7 id).cell 1
      have c70 := hb7.cell 0
      have c71 := hb7.cell 1
      simp only [List.getElem?_toArray, List.getElem?_cons_zero, List.getElem?_cons_succ] at c50 c51 c70 c71
      have HCE7 := Lib.hid (HCE.out.up hu7)
      clear hb7 hu7 HB5 HCE HQ
      by_cases hye : y = er
      · obtain ⟨rfl, rfl⟩ := HY.out (by omega)
        have HSM := Lib.hid (rsame_ok HCE7.out (CellsE.nil _) (by simp) 0)
        subst hye
        clear HCE7 HY
        go_wp2_with fail
        refine HSM.out.mono ?_
        rintro e w8 ⟨rfl, hu8⟩
        have HQ8 := Lib.hid (HQ7.out.up hu8)
        clear hu8
        go_wp2_with fail
        go_ret
        exact ⟨_, rfl, HQ8.out.kx.mono (by omega)⟩
      · clear HCE7 HY
        go_wp2_with fail
        go_ret
        exact ⟨_, rfl, HQ7.out.kx.mono (by omega)⟩
set_option maxRecDepth 100000 in
set_option maxHeartbeats 8000000 in
theorem KX.does6 (h : KX w w1 P l d pg fr x q pb c f f wr) (hc : c ≤ 980) (h0 : ¬ kind = 0) (h1 : ¬ kind = 1) (h2 : ¬ kind = 2) (h3 : ¬ kind = 3) (h4 : ¬ kind = 4) (h5 : ¬ kind = 5) : Calls Tryz.prog 31 #[.pointer (some ⟨x, 0, none⟩), .agg #[.int .i64 kind, .int .i64 n, strV key, .bool vh, strV vd]] wr fun e w' => ∃ b, e = .returned (.bool b) ∧ KX w w1 P l d pg fr x q pb (c + 2) f f w' := by
  obtain ⟨bq, hbq⟩ : ∃ bq, wr.heap.size = bq := ⟨_, rfl⟩
  have hq : KY w w1 P l d pg fr x q pb c f f bq ⟨kind, n, key, vh, vd⟩ (wr.alloc (.cells #[.int .i64 kind, .int .i64 n, strV key, .bool vh, strV vd] 61)) := ⟨h.up ((Upd.refl Nowhere wr).alloc _), hbq ▸ Blk.new wr _ _⟩
  obtain ⟨wA, hwA⟩ : ∃ wA, wr.alloc (.cells #[.int .i64 kind, .int .i64 n, strV key, .bool vh, strV vd] 61) = wA := ⟨_, rfl⟩
  rw [hwA] at hq
  have z : KYc P l x q bq ⟨kind, n, key, vh, vd⟩ wA := hq.cells
  obtain ⟨z1, z2, z3, z4, z5, z6, z7, z8⟩ := z
  simp only at z4 z5 z6 z7 z8
  have HQ := Lib.hid hq
  obtain ⟨fo, hr⟩ := hq.kx.ref
  obtain ⟨most, b1, b2, la, ck, hqb⟩ := hr.ex
  have q4 := hqb.cell 4
  have q5 := hqb.frozen 5
  have q6 := hqb.cell 5
  simp only [List.getElem?_toArray, List.getElem?_cons_zero, List.getElem?_cons_succ] at q4 q6
  have HFO := Lib.hid (((hq.up (Upd.refl Nowhere wA).drew).kx.setq la).force hc)
  have z1' : wA.drew.cell? ⟨x, 1, none⟩ = some (.pointer (some ⟨l, 0, none⟩)) := z1
  have z9 : (wA.drew.setCell ⟨q, 5, none⟩ (.int .i64 la)).cell? ⟨x, 1, none⟩ = some (.pointer (some ⟨l, 0, none⟩)) := by
    have := ((hq.up (Upd.refl Nowhere wA).drew).kx.setq la).play.cell 1
    simpa only [List.getElem?_toArray, List.getElem?_cons_zero, List.getElem?_cons_succ] using this
  clear h hc hq hr hqb
  go_enter Tryz.func31, Tryz.ntmps31
  go_wp2_with fail
  go_region
  all_goals
    go_wp2_with fail
    refine HFO.out.mono ?_
    rintro e w2 ⟨rfl, hK⟩
    have HK2 := Lib.hid hK
    clear hK
    go_wp2_with fail
    go_ret
    exact ⟨_, rfl, HK2.out.mono (by omega)⟩
theorem KX.does (h : KX w w1 P l d pg fr x q pb c f f wr) (hc : c ≤ 980) (hk : CellOK (key, (vh, vd))) (h0 : ¬ kind = 0) (h1 : ¬ kind = 1) (h4 : ¬ kind = 4) : Calls Tryz.prog 31 #[.pointer (some ⟨x, 0, none⟩), .agg #[.int .i64 kind, .int .i64 n, strV key, .bool vh, strV vd]] wr fun e w' => ∃ b, e = .returned (.bool b) ∧ KX w w1 P l d pg fr x q pb (c + 2) f f w' := by
  by_cases h2 : kind = 2
  · subst h2; exact h.does2 hc hk
  by_cases h3 : kind = 3
  · subst h3; exact h.does3 hc
  by_cases h5 : kind = 5
  · subst h5; exact h.does5 hc
  exact h.does6 hc h0 h1 h2 h3 h4 h5
end
end Go.Proofs.YtdfccegeihfdpaaGreatDoor
