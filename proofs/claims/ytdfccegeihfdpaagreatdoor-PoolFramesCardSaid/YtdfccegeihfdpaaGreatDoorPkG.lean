/-
  PoolFrames: what the law's other calls do, where the document's pool has no frames.
-/
import Derived.Test.YtdfccegeihfdpaaGreatDoorPkF
import Derived.Deep.RegionHeld3
namespace Go.Proofs.YtdfccegeihfdpaaGreatDoor
open Go Go.RowKit

/-- .. with the law's call in memory. -/
structure KY (w w1 : World) (P l d pg fr x q pb c : Nat) (f g : Nat → Nat) (bq : Nat) (y : CaV) (wr : World) : Prop where
  kx : KX w w1 P l d pg fr x q pb c f g wr
  blk : Blk wr bq 61 #[.int .i64 y.kind, .int .i64 y.n, strV y.key, .bool y.vh, strV y.vd]
section
variable {w w1 wr : World} {P l d pg fr x q pb c : Nat} {f g : Nat → Nat} {bq : Nat} {y : CaV}
theorem KY.up (h : KY w w1 P l d pg fr x q pb c f g bq y wr) {w' : World} (hu : Upd Nowhere wr w') : KY w w1 P l d pg fr x q pb c f g bq y w' := ⟨h.kx.up hu, h.blk.upd hu id⟩
theorem KY.pool (h : KY w w1 P l d pg fr x q pb c f g bq y wr) {w' : World} (hu : Upd (PoolF w1.heap.size wr) wr w') {c' : Nat} {g' : Nat → Nat} (hk : KX w w1 P l d pg fr x q pb c' f g' w') : KY w w1 P l d pg fr x q pb c' f g' bq y w' := ⟨hk, h.blk.upd hu (h.blk.noPool rfl)⟩
/-- What a region reads. -/
def KYc (P l x q bq : Nat) (y : CaV) (wr : World) : Prop := wr.cell? ⟨x, 1, none⟩ = some (.pointer (some ⟨l, 0, none⟩)) ∧ wr.cell? ⟨x, 2, none⟩ = some (.pointer (some ⟨P, 0, none⟩)) ∧ wr.cell? ⟨x, 3, none⟩ = some (.pointer (some ⟨q, 0, none⟩)) ∧ wr.cell? ⟨bq, 0, none⟩ = some (.int .i64 y.kind) ∧ wr.cell? ⟨bq, 1, none⟩ = some (.int .i64 y.n) ∧ wr.cell? ⟨bq, 2, none⟩ = some (strV y.key) ∧ wr.cell? ⟨bq, 3, none⟩ = some (.bool y.vh) ∧ wr.cell? ⟨bq, 4, none⟩ = some (strV y.vd)
theorem KY.cells (h : KY w w1 P l d pg fr x q pb c f g bq y wr) : KYc P l x q bq y wr := by
  have a1 := h.kx.play.cell 1
  have a2 := h.kx.play.cell 2
  have a3 := h.kx.play.cell 3
  have b0 := h.blk.cell 0
  have b1 := h.blk.cell 1
  have b2 := h.blk.cell 2
  have b3 := h.blk.cell 3
  have b4 := h.blk.cell 4
  simp only [List.getElem?_toArray, List.getElem?_cons_zero, List.getElem?_cons_succ] at a1 a2 a3 b0 b1 b2 b3 b4
  exact ⟨a1, a2, a3, b0, b1, b2, b3, b4⟩
theorem KX.change (h : KX w w1 P l d pg fr x q pb c f f wr) (hc : c ≤ 980) (n : Int) (key : Bs) (vh : Bool) (vd : Bs) (hk : CellOK (key, (vh, vd))) : Calls Tryz.prog 25 #[.pointer (some ⟨P, 0, none⟩), .int .i64 n, .int .i64 1, strV key, .agg #[.bool vh, strV vd]] wr fun e w' => ∃ y, e = .returned (.int .i64 y) ∧ KX w w1 P l d pg fr x q pb c f f w' ∧ Upd (PoolF w1.heap.size wr) wr w' := by
  obtain ⟨p, S, T, M, h1, h2⟩ := h.ex
  have hch := changeK h1 (by omega) (by omega) n 1 (Nat.le_refl _) (by omega) key vh vd hk
  rw [show ((1 : Nat) : Int) = 1 from rfl] at hch
  refine hch.mono ?_
  rintro e w' ⟨rfl, hP, hu⟩
  exact ⟨_, rfl, h.go hu ⟨p, S, _, M, hP, fun m => ((h1.inv.change n (Nat.le_refl 1) (by omega) (by omega) hk).2.1 m).trans (h2 m)⟩, hu⟩
theorem KX.flush (h : KX w w1 P l d pg fr x q pb c f f wr) (hc : c ≤ 980) (n : Int) : Calls Tryz.prog 43 #[.pointer (some ⟨P, 0, none⟩), .int .i64 n] wr fun e w' => ∃ y, e = .returned (.int .i64 y) ∧ KX w w1 P l d pg fr x q pb (c + 2) f f w' ∧ Upd (PoolF w1.heap.size wr) wr w' := by
  obtain ⟨p, S, T, M, h1, h2⟩ := h.ex
  refine (flushK h1 (by omega) n).mono ?_
  rintro e w' ⟨p', M', rfl, hP, hu, g1, g2⟩
  exact ⟨_, rfl, h.go hu ⟨p', _, _, M', hP, fun m => (g2 m).trans (h2 m)⟩, hu⟩
theorem KX.force (h : KX w w1 P l d pg fr x q pb c f f wr) (hc : c ≤ 980) : Calls Tryz.prog 49 #[.pointer (some ⟨l, 0, none⟩)] wr fun e w' => e = .returned (.int .i64 0) ∧ KX w w1 P l d pg fr x q pb (c + 1) f f w' := by
  obtain ⟨p, S, T, M, h1, h2⟩ := h.ex
  refine (forceK h1 (by omega)).mono ?_
  rintro e w' ⟨p', rfl, hP, hu⟩
  exact ⟨rfl, h.go hu ⟨p', _, _, M, hP, h2⟩⟩
/-- Page's answer: a page, or the error and none. -/
def PagQ (v : Value) (y : Int) (w' : World) : Prop := ∃ lsn : Int, ∃ L : Cl, ∃ A c0, v = .agg #[.int .i64 lsn, .slice A L.length c0] ∧ CellsE w' (.slice A L.length c0) L ∧ (y ≠ 0 → lsn = 0 ∧ L = [])
theorem KX.page (h : KX w w1 P l d pg fr x q pb c f f wr) (hc : c ≤ 980) (n : Int) : Calls Tryz.prog 27 #[.pointer (some ⟨P, 0, none⟩), .int .i64 n] wr fun e w' => ∃ (lsn : Int) (L : Cl) (A : Option Addr) (c0 : Nat) (y : Int), e = .returned (.tuple #[.agg #[.int .i64 lsn, .slice A L.length c0], .int .i64 y]) ∧ CellsE w' (.slice A L.length c0) L ∧ (y ≠ 0 → lsn = 0 ∧ L = []) ∧ Upd Nowhere wr w' := by
  obtain ⟨p, S, T, M, h1, h2⟩ := h.ex
  refine (ppage_ok h1.at_ (h1.inv.bounds (by omega)) n).mono ?_
  rintro e w' ⟨hA, hB, hu⟩
  cases hp : pinS T n with
  | error z => exact ⟨0, [], none, 0, z, hA z hp, CellsE.nil _, fun _ => ⟨rfl, rfl⟩, hu⟩
  | ok r =>
    obtain ⟨A, c0, rfl, hO⟩ := hB r hp
    exact ⟨_, r.1.cells, A, c0, 0, rfl, hO.cellsE, fun e => absurd rfl e, hu⟩
/-- x.m.Forced is another number. -/
theorem KX.setq (h : KX w w1 P l d pg fr x q pb c f g wr) (v : Int) : KX w w1 P l d pg fr x q pb c f g (wr.setCell ⟨q, 5, none⟩ (.int .i64 v)) := by
  obtain ⟨fo, h3⟩ := h.ref
  obtain ⟨most, b1, b2, la, ck, a1⟩ := h3.ex
  have hu := Upd.one wr q 5 (.int .i64 v)
  have ne : ∀ {k t : Nat} {cs : Array Value}, Blk wr k t cs → t ≠ 91 → ¬ k = q := fun hb ht e => by
    subst e
    have h2 := a1
    unfold Blk at hb h2
    rw [hb] at h2
    injection h2 with h2
    injection h2 with _ e2 _
    exact ht e2
  obtain ⟨p, S, T, M, h1, h2⟩ := h.ex
  obtain ⟨arr, p1, p2⟩ := h.pins.ex
  have hs := a1.set_ 5 (.int .i64 v)
  simp only [List.setIfInBounds_toArray, List.set_cons_succ, List.set_cons_zero] at hs
  refine ⟨⟨p, S, T, M, h1.upd hu (fun k e => by subst e; exact ⟨h.qge, a1.noPool rfl⟩) (fun k e hk => ?_) (noC_blk a1 (by decide)), h2⟩, ⟨v, ⟨most, b1, b2, la, ck, hs⟩⟩, h.pins.upd hu (ne p1 (by decide)), h.play.upd hu (ne h.play (by decide)), h.upd.same (hu.mono fun k _ e => by subst e; exact Nat.le_trans h.le h.qge), h.le, h.qge, h.pge, h.pg20⟩
  subst e
  obtain ⟨cs, fz, h5⟩ := hk
  unfold Blk at a1
  rw [a1] at h5
  injection h5 with h5
  injection h5 with _ e2 _
  cases e2
variable {kind n : Int} {key : Bs} {vh : Bool} {vd : Bs}
set_option maxRecDepth 100000 in
set_option maxHeartbeats 8000000 in
theorem KX.changes (h : KX w w1 P l d pg fr x q pb c f f wr) (hc : c ≤ 980) (hk : CellOK (key, (vh, vd))) : Calls Tryz.prog 88 #[.pointer (some ⟨x, 0, none⟩), .agg #[.int .i64 kind, .int .i64 n, strV key, .bool vh, strV vd]] wr fun e w' => ∃ b, e = .returned (.bool b) ∧ KX w w1 P l d pg fr x q pb c f f w' := by
  obtain ⟨bq, hbq⟩ : ∃ bq, wr.heap.size = bq := ⟨_, rfl⟩
  have hq : KY w w1 P l d pg fr x q pb c f f bq ⟨kind, n, key, vh, vd⟩ (wr.alloc (.cells #[.int .i64 kind, .int .i64 n, strV key, .bool vh, strV vd] 61)) := ⟨h.up ((Upd.refl Nowhere wr).alloc _), hbq ▸ Blk.new wr _ _⟩
  obtain ⟨wA, hwA⟩ : ∃ wA, wr.alloc (.cells #[.int .i64 kind, .int .i64 n, strV key, .bool vh, strV vd] 61) = wA := ⟨_, rfl⟩
  rw [hwA] at hq
  have z : KYc P l x q bq ⟨kind, n, key, vh, vd⟩ wA := hq.cells
  obtain ⟨z1, z2, z3, z4, z5, z6, z7, z8⟩ := z
  simp only at z4 z5 z6 z7 z8
  have HQ := Lib.hid hq
  have EE : Hid (∀ W, Upd Nowhere wA W → (W.cell? ⟨x, 1, none⟩ = some (.pointer (some ⟨l, 0, none⟩)) ∧ W.cell? ⟨x, 2, none⟩ = some (.pointer (some ⟨P, 0, none⟩)) ∧ W.cell? ⟨x, 3, none⟩ = some (.pointer (some ⟨q, 0, none⟩)) ∧ W.cell? ⟨bq, 0, none⟩ = some (.int .i64 kind) ∧ W.cell? ⟨bq, 1, none⟩ = some (.int .i64 n) ∧ W.cell? ⟨bq, 2, none⟩ = some (strV key) ∧ W.cell? ⟨bq, 3, none⟩ = some (.bool vh) ∧ W.cell? ⟨bq, 4, none⟩ = some (strV vd))) := Lib.hid fun W hW => (HQ.out.up hW).cells
  have HS : Hid (∀ W, Upd Nowhere wA W → Calls Tryz.prog 91 #[.pointer (some ⟨q, 0, none⟩), .int .i64 n] W fun e w' => e = .returned (.tuple #[.agg #[.int .i64 0, .slice none 0 0], .int .i64 (errR pg n)]) ∧ Upd Nowhere W w') := Lib.hid fun W hW => by
    obtain ⟨fo, hr⟩ := (HQ.out.up hW).kx.ref
    exact rpage_e hr n
  have HK := Lib.hid hk
  have hnz := errR_nz pg n
  have HER : Hid (∃ er, errR pg n = er) := Lib.hid ⟨_, rfl⟩
  obtain ⟨er, her⟩ := HER.out
  rw [her] at hnz HS
  have dd := EE.out wA (Upd.refl _ _)
  have d2 := EE.out wA.drew (Upd.refl Nowhere wA).drew
  have d3 := EE.out (wA.alloc (.cells #[.int .i64 0, .slice none 0 0] 72)) ((Upd.refl Nowhere wA).alloc _)
  have d4 := EE.out (wA.alloc (.cells #[.int .i64 0, .slice none 0 0] 72)).drew ((Upd.refl Nowhere wA).alloc _).drew
  have hu0 : Upd Nowhere wA (wA.alloc (.cells #[.int .i64 0, .slice none 0 0] 72)).drew := ((Upd.refl Nowhere wA).alloc (.cells #[.int .i64 0, .slice none 0 0] 72)).drew
  have HU0 := Lib.hid hu0
  clear h hk hq hu0 HER
  go_enter Tryz.func88, Tryz.ntmps88
  go_wp2_with fail
  go_cut [5, 6] (fun t5 t6 wz => t6 = .int .i64 er ∧ (∃ r5, t5 = .pointer (some ⟨r5, 0, none⟩)) ∧ KY w w1 P l d pg fr x q pb c f f bq ⟨kind, n, key, vh, vd⟩ wz)
  case first =>
    go_region_held3 (fun w' => w'.cell? ⟨x, 1, none⟩ = some (.pointer (some ⟨l, 0, none⟩)) ∧ w'.cell? ⟨x, 2, none⟩ = some (.pointer (some ⟨P, 0, none⟩)) ∧ w'.cell? ⟨x, 3, none⟩ = some (.pointer (some ⟨q, 0, none⟩)) ∧ w'.cell? ⟨bq, 0, none⟩ = some (.int .i64 kind) ∧ w'.cell? ⟨bq, 1, none⟩ = some (.int .i64 n) ∧ w'.cell? ⟨bq, 2, none⟩ = some (strV key) ∧ w'.cell? ⟨bq, 3, none⟩ = some (.bool vh) ∧ w'.cell? ⟨bq, 4, none⟩ = some (strV vd)) (first | with_reducible exact dd | with_reducible exact d2 | with_reducible exact d3 | with_reducible exact d4 | with_reducible exact k2 | with_reducible exact k3 | with_reducible exact k5)
      (first
        | (go_at_call 91
           refine (HS.out wA.drew (Upd.refl Nowhere wA).drew).mono ?_
           rintro e w3 ⟨rfl, hU3⟩
           have hU3' : Upd Nowhere wA w3 := (Upd.refl Nowhere wA).drew.same hU3
           have k2 := EE.out w3 hU3'
           have k3 := EE.out _ (hU3'.alloc (.cells #[.int .i64 0, .slice none 0 0] 72))
           have HU3 := Lib.hid hU3'
           clear hU3 hU3')
        | (go_at_call 91
           refine (HS.out _ HU0.out).mono ?_
           rintro e w3 ⟨rfl, hU3⟩
           have hU3' : Upd Nowhere wA w3 := HU0.out.same hU3
           have k2 := EE.out w3 hU3'
           have k5 := EE.out _ ((hU3'.setCell (p := ⟨wA.heap.size, 0, none⟩) (fun h => absurd h (Nat.lt_irrefl _)) (.int .i64 0)).setCell (p := ⟨wA.heap.size, 1, none⟩) (fun h => absurd h (Nat.lt_irrefl _)) (.slice none 0 0))
           have hbq5 := (Blk.new wA 72 #[.int .i64 0, .slice none 0 0]).drew.upd hU3 id
           have y0 := hbq5.cell 0
           have y1 := hbq5.cell 1
           have x0 := hbq5.frozen 0
           have x1 := hbq5.frozen 1
           simp only [List.getElem?_toArray, List.getElem?_cons_zero, List.getElem?_cons_succ] at y0 y1
           have HU3 := Lib.hid hU3'
           clear hU3 hU3' hbq5))
    · go_wp2_with fail
      go_meet
      exact ⟨rfl, ⟨_, rfl⟩, HQ.out.up (HU3.out.alloc _)⟩
    · go_wp2_with fail
      go_meet
      exact ⟨rfl, ⟨_, rfl⟩, HQ.out.up ((HU3.out.setCell (p := ⟨wA.heap.size, 0, none⟩) (fun h => absurd h (Nat.lt_irrefl _)) _).setCell (p := ⟨wA.heap.size, 1, none⟩) (fun h => absurd h (Nat.lt_irrefl _)) _)⟩
  case rest =>
    obtain ⟨rfl, ⟨r5, rfl⟩, hq3⟩ := hcut
    clear dd d2 d3 d4 HS EE HU0 z1 z2 z3 z4 z5 z6 z7 z8 HQ
    have HQ := Lib.hid hq3
    have dd : wc.cell? ⟨x, 1, none⟩ = some (.pointer (some ⟨l, 0, none⟩)) ∧ wc.cell? ⟨x, 2, none⟩ = some (.pointer (some ⟨P, 0, none⟩)) ∧ wc.cell? ⟨x, 3, none⟩ = some (.pointer (some ⟨q, 0, none⟩)) ∧ wc.cell? ⟨bq, 0, none⟩ = some (.int .i64 kind) ∧ wc.cell? ⟨bq, 1, none⟩ = some (.int .i64 n) ∧ wc.cell? ⟨bq, 2, none⟩ = some (strV key) ∧ wc.cell? ⟨bq, 3, none⟩ = some (.bool vh) ∧ wc.cell? ⟨bq, 4, none⟩ = some (strV vd) := hq3.cells
    have d2 : wc.drew.cell? ⟨x, 1, none⟩ = some (.pointer (some ⟨l, 0, none⟩)) ∧ wc.drew.cell? ⟨x, 2, none⟩ = some (.pointer (some ⟨P, 0, none⟩)) ∧ wc.drew.cell? ⟨x, 3, none⟩ = some (.pointer (some ⟨q, 0, none⟩)) ∧ wc.drew.cell? ⟨bq, 0, none⟩ = some (.int .i64 kind) ∧ wc.drew.cell? ⟨bq, 1, none⟩ = some (.int .i64 n) ∧ wc.drew.cell? ⟨bq, 2, none⟩ = some (strV key) ∧ wc.drew.cell? ⟨bq, 3, none⟩ = some (.bool vh) ∧ wc.drew.cell? ⟨bq, 4, none⟩ = some (strV vd) := (hq3.up (Upd.refl Nowhere wc).drew).cells
    have HCH := Lib.hid ((hq3.up (Upd.refl Nowhere wc).drew).kx.change (by omega) n key vh vd HK.out)
    clear hq3
    go_wp2_with fail
    go_region_held3 (fun w' => w'.cell? ⟨x, 1, none⟩ = some (.pointer (some ⟨l, 0, none⟩)) ∧ w'.cell? ⟨x, 2, none⟩ = some (.pointer (some ⟨P, 0, none⟩)) ∧ w'.cell? ⟨x, 3, none⟩ = some (.pointer (some ⟨q, 0, none⟩)) ∧ w'.cell? ⟨bq, 0, none⟩ = some (.int .i64 kind) ∧ w'.cell? ⟨bq, 1, none⟩ = some (.int .i64 n) ∧ w'.cell? ⟨bq, 2, none⟩ = some (strV key) ∧ w'.cell? ⟨bq, 3, none⟩ = some (.bool vh) ∧ w'.cell? ⟨bq, 4, none⟩ = some (strV vd)) (first | with_reducible exact dd | with_reducible exact d2 | with_reducible exact k2 | with_reducible exact k3)
      (first
        | (go_at_call 25
           refine HCH.out.mono ?_
           rintro e w2 ⟨y2, rfl, hK2, hu2⟩
           have hq2 := (HQ.out.up (Upd.refl Nowhere wc).drew).pool hu2 hK2
           have k2 : w2.cell? ⟨x, 1, none⟩ = some (.pointer (some ⟨l, 0, none⟩)) ∧ w2.cell? ⟨x, 2, none⟩ = some (.pointer (some ⟨P, 0, none⟩)) ∧ w2.cell? ⟨x, 3, none⟩ = some (.pointer (some ⟨q, 0, none⟩)) ∧ w2.cell? ⟨bq, 0, none⟩ = some (.int .i64 kind) ∧ w2.cell? ⟨bq, 1, none⟩ = some (.int .i64 n) ∧ w2.cell? ⟨bq, 2, none⟩ = some (strV key) ∧ w2.cell? ⟨bq, 3, none⟩ = some (.bool vh) ∧ w2.cell? ⟨bq, 4, none⟩ = some (strV vd) := hq2.cells
           obtain ⟨fo2, hr2⟩ := hK2.ref
           have hrc := rchange_e hr2 n 1 key vh vd
           rw [her] at hrc
           have HRC := Lib.hid hrc
           have HQ2 := Lib.hid hq2
           clear hK2 hu2 hq2 hr2 hrc)
        | (go_at_call 143
           refine HRC.out.mono ?_
           rintro e w3 ⟨rfl, hu3⟩
           have hq3 := HQ2.out.up hu3
           have k3 : w3.cell? ⟨x, 1, none⟩ = some (.pointer (some ⟨l, 0, none⟩)) ∧ w3.cell? ⟨x, 2, none⟩ = some (.pointer (some ⟨P, 0, none⟩)) ∧ w3.cell? ⟨x, 3, none⟩ = some (.pointer (some ⟨q, 0, none⟩)) ∧ w3.cell? ⟨bq, 0, none⟩ = some (.int .i64 kind) ∧ w3.cell? ⟨bq, 1, none⟩ = some (.int .i64 n) ∧ w3.cell? ⟨bq, 2, none⟩ = some (strV key) ∧ w3.cell? ⟨bq, 3, none⟩ = some (.bool vh) ∧ w3.cell? ⟨bq, 4, none⟩ = some (strV vd) := hq3.cells
           have HQ3 := Lib.hid hq3
           clear hu3 hq3))
    all_goals
      go_wp2_with fail
      go_ret
      exact ⟨_, rfl, HQ3.out.kx⟩
end
end Go.Proofs.YtdfccegeihfdpaaGreatDoor
