/-
  PoolKeeps: what is kept, round by round.
-/
import Derived.Test.YtdfccegeihfdpaaGreatDoorPgZ
import Derived.Test.YtdfccegeihfdpaaGreatDoorPgY
namespace Go.Proofs.YtdfccegeihfdpaaGreatDoor
open Go Go.RowKit

/-- The law's own pages. -/
structure HaveAt (w : World) (hb pages : Nat) (H : Nat → PgP) : Prop where
  ex : ∃ arr, Blk w hb 72 arr ∧ ∀ n, n < pages → ∃ A c, arr[n * 2]? = some (.int .i64 ((H n).lsn : Nat)) ∧ arr[n * 2 + 1]? = some (.slice A (H n).cells.length c) ∧ CellsE w (.slice A (H n).cells.length c) (H n).cells
theorem HaveAt.upd {F : Nat → Prop} {w w' : World} {hb pages : Nat} {H : Nat → PgP} (h : HaveAt w hb pages H) (hu : Upd F w w') (hF : ¬ F hb) (hC : NoC F w) : HaveAt w' hb pages H := by
  obtain ⟨arr, h1, h2⟩ := h.ex
  refine ⟨arr, h1.upd hu hF, fun n hn => ?_⟩
  obtain ⟨A, c, a1, a2, a3⟩ := h2 n hn
  exact ⟨A, c, a1, a2, a3.upd hu hC⟩
theorem HaveAt.up {w w' : World} {hb pages : Nat} {H : Nat → PgP} (h : HaveAt w hb pages H) (hu : Upd Nowhere w w') : HaveAt w' hb pages H := h.upd hu id (NoC.nowhere w)
theorem HaveAt.pool {bz : Nat} {w w' : World} {hb pages : Nat} {H : Nat → PgP} (h : HaveAt w hb pages H) (hu : Upd (PoolF bz w) w w') : HaveAt w' hb pages H := by
  obtain ⟨arr, h1, h2⟩ := h.ex
  exact h.upd hu (h1.noPool rfl) (PoolF.noC w)
theorem HaveAt.get {w : World} {hb pages : Nat} {H : Nat → PgP} (h : HaveAt w hb pages H) {n : Nat} (hn : n < pages) : ∃ A c, hb < w.heap.size ∧ w.cell? ⟨hb, n * 2, none⟩ = some (.int .i64 ((H n).lsn : Nat)) ∧ w.cell? ⟨hb, n * 2 + 1, none⟩ = some (.slice A (H n).cells.length c) ∧ (∀ i, w.frozen? ⟨hb, i, none⟩ = false) ∧ CellsE w (.slice A (H n).cells.length c) (H n).cells := by
  obtain ⟨arr, h1, h2⟩ := h.ex
  obtain ⟨A, c, a1, a2, a3⟩ := h2 n hn
  exact ⟨A, c, h1.lt, (h1.cell _).trans a1, (h1.cell _).trans a2, h1.frozen, a3⟩
def setH (H : Nat → PgP) (n : Nat) (x : PgP) : Nat → PgP := fun m => if m = n then x else H m
theorem HaveAt.set {w : World} {hb pages : Nat} {H : Nat → PgP} (h : HaveAt w hb pages H) {n : Nat} (hn : n < pages) (x : PgP) {A : Option Addr} {c : Nat} (hx : CellsE w (.slice A x.cells.length c) x.cells) : HaveAt ((w.setCell ⟨hb, n * 2, none⟩ (.int .i64 (x.lsn : Nat))).setCell ⟨hb, n * 2 + 1, none⟩ (.slice A x.cells.length c)) hb pages (setH H n x) := by
  obtain ⟨arr, h1, h2⟩ := h.ex
  have hs := (h1.set_ (n * 2) (.int .i64 (x.lsn : Nat))).set_ (n * 2 + 1) (.slice A x.cells.length c)
  have hu := (Upd.one w hb (n * 2) (.int .i64 (x.lsn : Nat))).same (Upd.one _ hb (n * 2 + 1) (.slice A x.cells.length c))
  have hC : NoC (fun k => k = hb) w := noC_blk h1 (by decide)
  obtain ⟨_, _, b1, b2, _⟩ := h2 n hn
  have hsz : n * 2 + 1 < arr.size := (Array.getElem?_eq_some_iff.1 b2).1
  refine ⟨_, hs, fun m hm => ?_⟩
  unfold setH
  by_cases e : m = n
  · subst e
    rw [if_pos rfl]
    refine ⟨A, c, ?_, ?_, hx.upd hu hC⟩
    · rw [Array.getElem?_setIfInBounds_ne (by omega), Array.getElem?_setIfInBounds_self_of_lt (by omega)]
    · rw [Array.getElem?_setIfInBounds_self_of_lt (by simpa using hsz)]
  · rw [if_neg e]
    obtain ⟨A', c', a1, a2, a3⟩ := h2 m hm
    refine ⟨A', c', ?_, ?_, a3.upd hu hC⟩
    · rw [Array.getElem?_setIfInBounds_ne (by omega), Array.getElem?_setIfInBounds_ne (by omega)]; exact a1
    · rw [Array.getElem?_setIfInBounds_ne (by omega), Array.getElem?_setIfInBounds_ne (by omega)]; exact a2
theorem HaveAt.new (w : World) (pages : Nat) : HaveAt (w.alloc (.cells (madeCells #[.int .i64 0, .slice none 0 0] (pages * 2)) 72)) w.heap.size pages (fun _ => pg0) := by
  refine ⟨_, Blk.new w _ _, fun n hn => ⟨none, 0, ?_, ?_, CellsE.nil _⟩⟩
  · unfold madeCells
    rw [Array.getElem?_map, Array.getElem?_range, if_pos (by omega), Option.map_some]
    show some ((#[Value.int .i64 0, .slice none 0 0])[n * 2 % 2]!) = _
    rw [show n * 2 % 2 = 0 by omega]
    rfl
  · unfold madeCells
    rw [Array.getElem?_map, Array.getElem?_range, if_pos (by omega), Option.map_some]
    show some ((#[Value.int .i64 0, .slice none 0 0])[(n * 2 + 1) % 2]!) = _
    rw [show (n * 2 + 1) % 2 = 1 by omega]
    rfl
/-- Where the law's loop stands. -/
structure KS (w w1 : World) (P l d pg fr hb x q c top : Nat) (f : Nat → Nat) (G H : Nat → PgP) (wr : World) : Prop where
  ex : ∃ p S T M, PSt w1.heap.size P l d 0 pg fr c wr p S T M ∧ S.items.length = top ∧ (∀ m, m < pg → curP T.L M m = G m) ∧ ∀ m, pinsP T.L m = f m
  hav : HaveAt wr hb pg H
  play : Blk wr x 65 #[.pointer (some ⟨d, 0, none⟩), .pointer (some ⟨l, 0, none⟩), .pointer (some ⟨P, 0, none⟩), .pointer (some ⟨q, 0, none⟩)]
  upd : Upd (fun k => w.heap.size ≤ k) w wr
  le : w.heap.size ≤ w1.heap.size
section
variable {w w1 wr : World} {P l d pg fr hb x q c top n : Nat} {f : Nat → Nat} {G H : Nat → PgP}
theorem KS.up (h : KS w w1 P l d pg fr hb x q c top f G H wr) {w' : World} (hu : Upd Nowhere wr w') : KS w w1 P l d pg fr hb x q c top f G H w' := by
  obtain ⟨p, S, T, M, h1, h2⟩ := h.ex
  exact ⟨⟨p, S, T, M, h1.up hu, h2⟩, h.hav.up hu, h.play.upd hu id, h.upd.same hu.any, h.le⟩
theorem KS.mono (h : KS w w1 P l d pg fr hb x q c top f G H wr) {c' : Nat} (hc : c ≤ c') : KS w w1 P l d pg fr hb x q c' top f G H wr := by
  obtain ⟨p, S, T, M, h1, h2⟩ := h.ex
  exact ⟨⟨p, S, T, M, h1.mono hc, h2⟩, h.hav, h.play, h.upd, h.le⟩
theorem KS.go (h : KS w w1 P l d pg fr hb x q c top f G H wr) {w' : World} (hu : Upd (PoolF w1.heap.size wr) wr w') {c' top' : Nat} {f' : Nat → Nat} {G' : Nat → PgP} (hex : ∃ p S T M, PSt w1.heap.size P l d 0 pg fr c' w' p S T M ∧ S.items.length = top' ∧ (∀ m, m < pg → curP T.L M m = G' m) ∧ ∀ m, pinsP T.L m = f' m) : KS w w1 P l d pg fr hb x q c' top' f' G' H w' :=
  ⟨hex, h.hav.pool hu, h.play.play hu, h.upd.same (hu.mono fun _ _ e => Nat.le_trans h.le e.1), h.le⟩
def oneF (n : Nat) : Nat → Nat := fun m => if m = n then 1 else 0
def noF : Nat → Nat := fun _ => 0
theorem KS.fetch (h : KS w w1 P l d pg fr hb x q c top noF G H wr) (hc : c ≤ 990) (hn : n < pg) : Calls Tryz.prog 23 #[.pointer (some ⟨P, 0, none⟩), .int .i64 (n : Nat)] wr fun e w' => e = .returned (.int .i64 0) ∧ (∃ top', KS w w1 P l d pg fr hb x q (c + 4) top' (oneF n) G H w') ∧ Upd (PoolF w1.heap.size wr) wr w' := by
  obtain ⟨p, S, T, M, h1, h2, h3, h4⟩ := h.ex
  refine (fetchK h1 hc n hn).mono ?_
  rintro e w' ⟨p', S', T', M', x', rfl, hP, hu, hF⟩
  rcases hF.code with ⟨rfl, hpn⟩ | ⟨_, hl, hall, _⟩
  · refine ⟨rfl, ⟨_, h.go hu ⟨p', S', T', M', hP, rfl, fun m hm => (hF.cur m).trans (h3 m hm), fun m => ?_⟩⟩, hu⟩
    rw [hpn, h4, h4]
    unfold oneF noF
    split <;> rfl
  · have hm := h1.inv.m1
    have hms := h1.mst
    obtain ⟨r, hr⟩ : ∃ r, r ∈ T.L := by
      cases hL : T.L with
      | nil => rw [hL] at hl; simp at hl; omega
      | cons a L => exact ⟨a, List.mem_cons_self ..⟩
    have := h4 r.1.no
    rw [pinsP_of h1.inv.nos hr] at this
    exact absurd this (hall r hr)
theorem KS.append (h : KS w w1 P l d pg fr hb x q c top f G H wr) (hc : c ≤ 990) (key : Bs) (vh : Bool) (vd : Bs) (hk : CellOK (key, (vh, vd))) : Calls Tryz.prog 24 #[.pointer (some ⟨l, 0, none⟩), .agg (updA key vh vd), .int .i64 0] wr fun e w' => (e = .returned (.tuple #[.int .i64 0, .int .i64 90]) ∧ KS w w1 P l d pg fr hb x q c top f G H w' ∧ Upd (PoolF w1.heap.size wr) wr w') ∨ ∃ k, e = .returned (.tuple #[.int .i64 (k : Nat), .int .i64 0]) ∧ 1 ≤ k ∧ KS w w1 P l d pg fr hb x q (c + 1) k f G H w' ∧ Upd (PoolF w1.heap.size wr) wr w' := by
  obtain ⟨p, S, T, M, h1, h2, h3, h4⟩ := h.ex
  refine (appendK h1 hc key vh vd hk).mono ?_
  rintro e w' ⟨k, x', rfl, hA, hu⟩
  rcases hA.code with rfl | rfl
  · obtain ⟨S', rfl, a1, a2, a3⟩ := hA.in_ rfl
    exact .inr ⟨_, rfl, by omega, h.go hu ⟨p, S', T, M, a3, rfl, h3, h4⟩, hu⟩
  · obtain ⟨rfl, a1⟩ := hA.out rfl
    exact .inl ⟨rfl, h.go hu ⟨p, S, T, M, a1, h2, h3, h4⟩, hu⟩
theorem KS.change (h : KS w w1 P l d pg fr hb x q c top (oneF n) G H wr) (hc : c ≤ 990) (hn : n < pg) (h1' : 1 ≤ top) (key : Bs) (vh : Bool) (vd : Bs) (hk : CellOK (key, (vh, vd))) : Calls Tryz.prog 25 #[.pointer (some ⟨P, 0, none⟩), .int .i64 (n : Nat), .int .i64 (top : Nat), strV key, .agg #[.bool vh, strV vd]] wr fun e w' => e = .returned (.int .i64 (if roomB (G n).cells key then 0 else 100)) ∧ KS w w1 P l d pg fr hb x q c top (oneF n) (if roomB (G n).cells key then setH G n ((G n).set top key (vh, vd)) else G) H w' ∧ Upd (PoolF w1.heap.size wr) wr w' := by
  obtain ⟨p, S, T, M, h1, h2, h3, h4⟩ := h.ex
  have htop : top ≤ c := h2 ▸ h1.inv.lg.len
  refine (changeK h1 hc (by omega) (n : Nat) top h1' (by omega) key vh vd hk).mono ?_
  rintro e w' ⟨rfl, hP, hu⟩
  obtain ⟨r, hr, hrm, hrn⟩ := h1.inv.pinS_of hn (by rw [h4]; unfold oneF; rw [if_pos rfl]; omega)
  obtain ⟨c1, c2, c3, c4⟩ := h1.inv.change (n : Nat) h1' (by omega) (by omega) hk
  obtain ⟨c5, c6⟩ := c4 r hr
  have hcur : r.1.pg = G n := by rw [← h3 n hn, ← hrn, curP_in h1.inv hrm]
  have hcc : r.1.cells = (G n).cells := by rw [← hcur]; rfl
  rw [hcc] at c5
  refine ⟨by rw [c5], h.go hu ⟨p, S, _, M, hP, h2, fun m hm => ?_, fun m => (c2 m).trans (h4 m)⟩, hu⟩
  cases hroom : roomB (G n).cells key with
  | true =>
    rw [hroom] at c5
    rw [c6 c5, hcur, hrn, if_pos rfl]
    unfold setH
    split
    · rfl
    · exact h3 m hm
  | false =>
    rw [hroom] at c5
    rw [c3 (by rw [c5]; decide), if_neg (by decide)]
    exact h3 m hm
theorem KS.page (h : KS w w1 P l d pg fr hb x q c top (oneF n) G H wr) (hc : c ≤ 990) (hn : n < pg) : Calls Tryz.prog 27 #[.pointer (some ⟨P, 0, none⟩), .int .i64 (n : Nat)] wr fun e w' => ∃ A c0, e = .returned (.tuple #[.agg #[.int .i64 ((G n).lsn : Nat), .slice A (G n).cells.length c0], .int .i64 0]) ∧ CellsE w' (.slice A (G n).cells.length c0) (G n).cells ∧ Upd Nowhere wr w' := by
  obtain ⟨p, S, T, M, h1, h2, h3, h4⟩ := h.ex
  obtain ⟨r, hr, hrm, hrn⟩ := h1.inv.pinS_of hn (by rw [h4]; unfold oneF; rw [if_pos rfl]; omega)
  have hcur : r.1.pg = G n := by rw [← h3 n hn, ← hrn, curP_in h1.inv hrm]
  refine (ppage_ok h1.at_ (h1.inv.bounds (by omega)) (n : Nat)).mono ?_
  rintro e w' ⟨_, hB, hu⟩
  obtain ⟨A, c0, rfl, hO⟩ := hB r hr
  have hO := hO.cellsE
  rw [← hcur]
  exact ⟨A, c0, rfl, hO, hu⟩
theorem KS.unpin (h : KS w w1 P l d pg fr hb x q c top (oneF n) G H wr) (hc : c ≤ 990) (hn : n < pg) : Calls Tryz.prog 29 #[.pointer (some ⟨P, 0, none⟩), .int .i64 (n : Nat)] wr fun e w' => e = .returned (.int .i64 0) ∧ KS w w1 P l d pg fr hb x q c top noF G H w' ∧ Upd (PoolF w1.heap.size wr) wr w' := by
  obtain ⟨p, S, T, M, h1, h2, h3, h4⟩ := h.ex
  obtain ⟨u1, u2⟩ := h1.inv.unpin_pins hn (by rw [h4]; unfold oneF; rw [if_pos rfl]; omega)
  refine (unpinK h1 hc (n : Nat)).mono ?_
  rintro e w' ⟨rfl, hP, hu⟩
  refine ⟨by rw [u1], h.go hu ⟨p, S, _, M, hP, h2, fun m hm => ((h1.inv.unpin _).2 m).trans (h3 m hm), fun m => ?_⟩, hu⟩
  rw [u2, h4, h4]
  unfold oneF noF
  split
  · rw [if_pos rfl]
  · rfl
theorem KS.evict (h : KS w w1 P l d pg fr hb x q c top noF G H wr) (hc : c ≤ 990) (hn : n < pg) : Calls Tryz.prog 30 #[.pointer (some ⟨P, 0, none⟩), .int .i64 (n : Nat)] wr fun e w' => e = .returned (.int .i64 0) ∧ (∃ top', KS w w1 P l d pg fr hb x q (c + 2) top' noF G H w') ∧ Upd (PoolF w1.heap.size wr) wr w' := by
  obtain ⟨p, S, T, M, h1, h2, h3, h4⟩ := h.ex
  refine (evictK h1 hc (n : Nat)).mono ?_
  rintro e w' ⟨p', M', rfl, hP, hu, g1, g2, g3⟩
  have hx := g3 ⟨by omega, by rw [h1.inv.pgs]; omega⟩
  rw [Int.toNat_natCast, h4, if_pos (by rfl)] at hx
  exact ⟨by rw [hx], ⟨_, h.go hu ⟨p', _, _, M', hP, rfl, fun m hm => (g1 m).trans (h3 m hm), fun m => (g2 m).trans (h4 m)⟩⟩, hu⟩
/-- .. with the law's call in memory. -/
structure KQ (w w1 : World) (P l d pg fr hb x q c top : Nat) (f : Nat → Nat) (G H : Nat → PgP) (bq : Nat) (y : CaV) (wr : World) : Prop where
  ks : KS w w1 P l d pg fr hb x q c top f G H wr
  blk : Blk wr bq 61 #[.int .i64 y.kind, .int .i64 y.n, strV y.key, .bool y.vh, strV y.vd]
variable {bq : Nat} {y : CaV}
theorem KQ.up (h : KQ w w1 P l d pg fr hb x q c top f G H bq y wr) {w' : World} (hu : Upd Nowhere wr w') : KQ w w1 P l d pg fr hb x q c top f G H bq y w' := ⟨h.ks.up hu, h.blk.upd hu id⟩
theorem KQ.pool (h : KQ w w1 P l d pg fr hb x q c top f G H bq y wr) {w' : World} (hu : Upd (PoolF w1.heap.size wr) wr w') {c' top' : Nat} {f' : Nat → Nat} {G' : Nat → PgP} (hk : KS w w1 P l d pg fr hb x q c' top' f' G' H w') : KQ w w1 P l d pg fr hb x q c' top' f' G' H bq y w' := ⟨hk, h.blk.upd hu (h.blk.noPool rfl)⟩
/-- What a region of the round reads. -/
def KQc (P l x bq : Nat) (y : CaV) (wr : World) : Prop := wr.cell? ⟨x, 1, none⟩ = some (.pointer (some ⟨l, 0, none⟩)) ∧ wr.cell? ⟨x, 2, none⟩ = some (.pointer (some ⟨P, 0, none⟩)) ∧ wr.cell? ⟨bq, 0, none⟩ = some (.int .i64 y.kind) ∧ wr.cell? ⟨bq, 1, none⟩ = some (.int .i64 y.n) ∧ wr.cell? ⟨bq, 2, none⟩ = some (strV y.key) ∧ wr.cell? ⟨bq, 3, none⟩ = some (.bool y.vh) ∧ wr.cell? ⟨bq, 4, none⟩ = some (strV y.vd)
theorem KQ.cells (h : KQ w w1 P l d pg fr hb x q c top f G H bq y wr) : KQc P l x bq y wr := by
  have a1 := h.ks.play.cell 1
  have a2 := h.ks.play.cell 2
  have b0 := h.blk.cell 0
  have b1 := h.blk.cell 1
  have b2 := h.blk.cell 2
  have b3 := h.blk.cell 3
  have b4 := h.blk.cell 4
  simp only [List.getElem?_toArray, List.getElem?_cons_zero, List.getElem?_cons_succ] at a1 a2 b0 b1 b2 b3 b4
  exact ⟨a1, a2, b0, b1, b2, b3, b4⟩
end
end Go.Proofs.YtdfccegeihfdpaaGreatDoor
