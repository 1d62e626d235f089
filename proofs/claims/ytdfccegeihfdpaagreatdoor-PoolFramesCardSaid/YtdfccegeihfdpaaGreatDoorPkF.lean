/-
  PoolFrames: the law's own pins, and what a round leaves.
-/
import Derived.Test.YtdfccegeihfdpaaGreatDoorPkE
import Derived.Test.YtdfccegeihfdpaaGreatDoorPgZ
import Derived.Test.YtdfccegeihfdpaaGreatDoorPgW
import Derived.Test.YtdfccegeihfdpaaGreatDoorPgV
namespace Go.Proofs.YtdfccegeihfdpaaGreatDoor
open Go Go.RowKit

theorem PoI.more {e0 e1 pages c : Nat} {S : LogS} {T : PoS} {M : DkM} (h : PoI e0 pages c S T M) (he : e0 ≤ e1) : PoI e1 pages c S T M :=
  ⟨h.lg, h.pgs, h.p20, h.m20, h.m1, h.clk, h.len, h.nos, h.place, h.turn, fun n => Nat.le_trans (h.ahead n) (by omega), fun q hq => by
    obtain ⟨a1, a2, a3, a4, a5, a6⟩ := h.fr q hq
    exact ⟨a1, a2, a3, a4, a5, by omega⟩⟩
section
variable {bz P l d e0 pages most c : Nat} {w : World} {p : DkP} {S : LogS} {T : PoS} {M : DkM}
theorem PSt.more (h : PSt bz P l d e0 pages most c w p S T M) {e1 : Nat} (he : e0 ≤ e1) : PSt bz P l d e1 pages most c w p S T M := ⟨h.at_, h.inv.more he, h.half, h.mst, h.pd⟩
theorem fetch_no (h : PoolAt bz w P p l S T) (n : Int) (hin : ¬ inT T n) : Calls Tryz.prog 23 #[.pointer (some ⟨P, 0, none⟩), .int .i64 n] w fun e w' => e = .returned (.int .i64 1) ∧ w' = w := by
  have HIS := Lib.hid (is_ok h n)
  rw [if_neg hin] at HIS
  clear h hin
  go_enter Tryz.func23, Tryz.ntmps23
  go_wp2_with fail
  refine HIS.out.mono ?_
  rintro e w1 ⟨rfl, rfl⟩
  go_wp2_with fail
  go_ret
  exact ⟨rfl, rfl⟩
theorem forceK (h : PSt bz P l d e0 pages most c w p S T M) (hc : c ≤ 990) : Calls Tryz.prog 49 #[.pointer (some ⟨l, 0, none⟩)] w fun e w' => ∃ p', e = .returned (.int .i64 0) ∧ PSt bz P l d e0 pages most (c + 1) w' p' S.forceS.1 T M ∧ Upd (PoolF bz w) w w' := by
  have hB := h.inv.lg.bounds h.inv.p20 (by omega)
  have hf := force_ok h.at_.log hB (by omega) h.inv.lg.dwn h.half (hB.sheets_good (by omega)) (by rw [hB.find_len, placesB_len]) hB.find_le
  refine hf.mono ?_
  rintro e w' ⟨p', hpd, rfl, hL, hu⟩
  obtain ⟨h1, h2, _⟩ := h.inv.forced (by omega)
  exact ⟨p', by rw [h1], ⟨h.at_.logs hL hpd hu, h2, HalfW.pools h.at_.log.hz h.half hu.log_pool, h.mst, hpd.trans h.pd⟩, hu.log_pool⟩
end
/-- The law's own pins. -/
structure PinsAt (w : World) (pb : Nat) (f : Nat → Nat) : Prop where
  ex : ∃ arr, Blk w pb 78 arr ∧ ∀ m, m < 20 → arr[m]? = some (.int .i64 (f m : Nat))
def setN (f : Nat → Nat) (n x : Nat) : Nat → Nat := fun m => if m = n then x else f m
section
variable {w w' : World} {pb : Nat} {f : Nat → Nat}
theorem PinsAt.upd {F : Nat → Prop} (h : PinsAt w pb f) (hu : Upd F w w') (hF : ¬ F pb) : PinsAt w' pb f := by
  obtain ⟨arr, h1, h2⟩ := h.ex
  exact ⟨arr, h1.upd hu hF, h2⟩
theorem PinsAt.new (w : World) : PinsAt (w.alloc (.cells #[.int .i64 0, .int .i64 0, .int .i64 0, .int .i64 0, .int .i64 0, .int .i64 0, .int .i64 0, .int .i64 0, .int .i64 0, .int .i64 0, .int .i64 0, .int .i64 0, .int .i64 0, .int .i64 0, .int .i64 0, .int .i64 0, .int .i64 0, .int .i64 0, .int .i64 0, .int .i64 0] 78)) w.heap.size (fun _ => 0) := by
  refine ⟨_, Blk.new w _ _, fun m hm => ?_⟩
  rcases (by omega : m = 0 ∨ m = 1 ∨ m = 2 ∨ m = 3 ∨ m = 4 ∨ m = 5 ∨ m = 6 ∨ m = 7 ∨ m = 8 ∨ m = 9 ∨ m = 10 ∨ m = 11 ∨ m = 12 ∨ m = 13 ∨ m = 14 ∨ m = 15 ∨ m = 16 ∨ m = 17 ∨ m = 18 ∨ m = 19) with rfl | rfl | rfl | rfl | rfl | rfl | rfl | rfl | rfl | rfl | rfl | rfl | rfl | rfl | rfl | rfl | rfl | rfl | rfl | rfl <;> rfl
theorem PinsAt.up (h : PinsAt w pb f) (hu : Upd Nowhere w w') : PinsAt w' pb f := h.upd hu id
theorem PinsAt.get (h : PinsAt w pb f) {n : Nat} (hn : n < 20) : w.cell? ⟨pb, n, none⟩ = some (.int .i64 (f n : Nat)) := by
  obtain ⟨arr, h1, h2⟩ := h.ex
  exact (h1.cell _).trans (h2 n hn)
theorem PinsAt.frozen (h : PinsAt w pb f) (n : Nat) : w.frozen? ⟨pb, n, none⟩ = false := by
  obtain ⟨arr, h1, h2⟩ := h.ex
  exact h1.frozen n
theorem PinsAt.set (h : PinsAt w pb f) (n x : Nat) (hn : n < 20) : PinsAt (w.setCell ⟨pb, n, none⟩ (.int .i64 (x : Nat))) pb (setN f n x) := by
  obtain ⟨arr, h1, h2⟩ := h.ex
  have hs : n < arr.size := (Array.getElem?_eq_some_iff.1 (h2 n hn)).1
  refine ⟨_, h1.set_ n (.int .i64 (x : Nat)), fun m hm => ?_⟩
  unfold setN
  by_cases e : m = n
  · subst e
    rw [if_pos rfl, Array.getElem?_setIfInBounds_self_of_lt hs]
  · rw [if_neg e, Array.getElem?_setIfInBounds_ne (by omega)]
    exact h2 m hm
end
/-- Where the law stands: its own pins are f, the pool's are g. -/
structure KX (w w1 : World) (P l d pg fr x q pb c : Nat) (f g : Nat → Nat) (wr : World) : Prop where
  ex : ∃ p S T M, PSt w1.heap.size P l d 1 pg fr c wr p S T M ∧ ∀ m, pinsP T.L m = g m
  ref : ∃ fo, RefE wr q pg fo
  pins : PinsAt wr pb f
  play : Blk wr x 65 #[.pointer (some ⟨d, 0, none⟩), .pointer (some ⟨l, 0, none⟩), .pointer (some ⟨P, 0, none⟩), .pointer (some ⟨q, 0, none⟩)]
  upd : Upd (fun k => w.heap.size ≤ k) w wr
  le : w.heap.size ≤ w1.heap.size
  qge : w1.heap.size ≤ q
  pge : w1.heap.size ≤ pb
  pg20 : pg ≤ 20
/-- What a call of the law's may touch. -/
def PlF (bz q : Nat) (w : World) (k : Nat) : Prop := PoolF bz w k ∨ k = q
theorem errR_nz (pages : Nat) (n : Int) : ¬ errR pages n = 0 := by
  have := errR_ne pages n
  omega
theorem PoI.pins_le {e0 pages c : Nat} {S : LogS} {T : PoS} {M : DkM} (h : PoI e0 pages c S T M) (n : Nat) : pinsP T.L n ≤ c := by
  unfold pinsP
  cases hf : findF T.L (n : Nat) with
  | none => exact Nat.zero_le _
  | some q => exact (h.fr q (findF_some hf).1).2.1
theorem unpin_out {T : PoS} {n : Int} (h : (unpinS T n).2 ≠ 0) : (unpinS T n).1 = T := by
  unfold unpinS at *
  cases hp : pinS T n with
  | error e => rfl
  | ok q => rw [hp] at h; exact absurd rfl h
section
variable {w w1 wr : World} {P l d pg fr x q pb c : Nat} {f g : Nat → Nat}
theorem KX.up (h : KX w w1 P l d pg fr x q pb c f g wr) {w' : World} (hu : Upd Nowhere wr w') : KX w w1 P l d pg fr x q pb c f g w' := by
  obtain ⟨p, S, T, M, h1, h2⟩ := h.ex
  obtain ⟨fo, h3⟩ := h.ref
  exact ⟨⟨p, S, T, M, h1.up hu, h2⟩, ⟨fo, h3.upd hu id⟩, h.pins.up hu, h.play.upd hu id, h.upd.same hu.any, h.le, h.qge, h.pge, h.pg20⟩
theorem KX.mono (h : KX w w1 P l d pg fr x q pb c f g wr) {c' : Nat} (hc : c ≤ c') : KX w w1 P l d pg fr x q pb c' f g wr := by
  obtain ⟨p, S, T, M, h1, h2⟩ := h.ex
  exact ⟨⟨p, S, T, M, h1.mono hc, h2⟩, h.ref, h.pins, h.play, h.upd, h.le, h.qge, h.pge, h.pg20⟩
theorem KX.le_pins (h : KX w w1 P l d pg fr x q pb c f g wr) (n : Nat) : g n ≤ c := by
  obtain ⟨p, S, T, M, h1, h2⟩ := h.ex
  rw [← h2]
  exact h1.inv.pins_le n
/-- The law's pins are others. -/
theorem KX.set (h : KX w w1 P l d pg fr x q pb c f g wr) {n y : Nat} (hn : n < pg) : KX w w1 P l d pg fr x q pb c (setN f n y) g (wr.setCell ⟨pb, n, none⟩ (.int .i64 (y : Nat))) := by
  obtain ⟨arr, a1, a2⟩ := h.pins.ex
  have hu := Upd.one wr pb n (.int .i64 (y : Nat))
  have ne : ∀ {k t : Nat} {cs : Array Value}, Blk wr k t cs → t ≠ 78 → ¬ k = pb := fun hb ht e => by
    subst e
    have h2 := a1
    unfold Blk at hb h2
    rw [hb] at h2
    injection h2 with h2
    injection h2 with _ e2 _
    exact ht e2
  obtain ⟨p, S, T, M, h1, h2⟩ := h.ex
  obtain ⟨fo, h3⟩ := h.ref
  obtain ⟨most, b1, b2, la, ck, h4⟩ := h3.ex
  refine ⟨⟨p, S, T, M, h1.upd hu (fun k e => by subst e; exact ⟨h.pge, a1.noPool rfl⟩) (fun k e hk => ?_) (noC_blk a1 (by decide)), h2⟩, ⟨fo, h3.upd hu (ne h4 (by decide))⟩, h.pins.set n y (by have := h.pg20; omega), h.play.upd hu (ne h.play (by decide)), h.upd.same (hu.mono fun k _ e => by subst e; exact Nat.le_trans h.le h.pge), h.le, h.qge, h.pge, h.pg20⟩
  subst e
  obtain ⟨cs, fz, h5⟩ := hk
  unfold Blk at a1
  rw [a1] at h5
  injection h5 with h5
  injection h5 with _ e2 _
  cases e2
theorem KX.go (h : KX w w1 P l d pg fr x q pb c f g wr) {w' : World} (hu : Upd (PoolF w1.heap.size wr) wr w') {c' : Nat} {g' : Nat → Nat} (hex : ∃ p S T M, PSt w1.heap.size P l d 1 pg fr c' w' p S T M ∧ ∀ m, pinsP T.L m = g' m) : KX w w1 P l d pg fr x q pb c' f g' w' := by
  obtain ⟨fo, h3⟩ := h.ref
  obtain ⟨arr, a1, _⟩ := h.pins.ex
  exact ⟨hex, ⟨fo, h3.pool hu⟩, h.pins.upd hu (a1.noPool rfl), h.play.play hu, h.upd.same (hu.mono fun _ _ e => Nat.le_trans h.le e.1), h.le, h.qge, h.pge, h.pg20⟩
theorem KX.fetch (h : KX w w1 P l d pg fr x q pb c f f wr) (hc : c ≤ 990) (n : Int) : Calls Tryz.prog 23 #[.pointer (some ⟨P, 0, none⟩), .int .i64 n] wr fun e w' => ∃ y, e = .returned (.int .i64 y) ∧ ((y = 0 ∧ ∃ m : Nat, n = (m : Nat) ∧ m < pg ∧ KX w w1 P l d pg fr x q pb (c + 4) f (setN f m (f m + 1)) w') ∨ (y ≠ 0 ∧ KX w w1 P l d pg fr x q pb (c + 4) f f w')) ∧ Upd (PoolF w1.heap.size wr) wr w' := by
  obtain ⟨p, S, T, M, h1, h2⟩ := h.ex
  by_cases hin : 0 ≤ n ∧ n < (pg : Int)
  · obtain ⟨m, rfl⟩ : ∃ m : Nat, n = (m : Nat) := ⟨n.toNat, by omega⟩
    have hm : m < pg := by omega
    refine (fetchK h1 hc m hm).mono ?_
    rintro e w' ⟨p', S', T', M', x', rfl, hP, hu, hF⟩
    rcases hF.code with ⟨rfl, hpn⟩ | ⟨rfl, _, _, hpn⟩
    · refine ⟨_, rfl, .inl ⟨rfl, m, rfl, hm, h.go hu ⟨p', S', T', M', hP, fun k => ?_⟩⟩, hu⟩
      rw [hpn, h2, h2]
      rfl
    · exact ⟨_, rfl, .inr ⟨by decide, h.go hu ⟨p', S', T', M', hP, fun k => (hpn k).trans (h2 k)⟩⟩, hu⟩
  · refine (fetch_no h1.at_ n fun e => hin ⟨e.1, by have := e.2; rw [h1.inv.pgs] at this; exact this⟩).mono ?_
    rintro e w' ⟨rfl, rfl⟩
    exact ⟨_, rfl, .inr ⟨by decide, h.mono (by omega)⟩, Upd.refl _ _⟩
theorem KX.unpin (h : KX w w1 P l d pg fr x q pb c f f wr) (hc : c ≤ 990) (n : Int) : Calls Tryz.prog 29 #[.pointer (some ⟨P, 0, none⟩), .int .i64 n] wr fun e w' => ∃ y, e = .returned (.int .i64 y) ∧ ((y = 0 ∧ ∃ m : Nat, n = (m : Nat) ∧ m < pg ∧ 0 < f m ∧ KX w w1 P l d pg fr x q pb (c + 4) f (setN f m (f m - 1)) w') ∨ (y ≠ 0 ∧ KX w w1 P l d pg fr x q pb (c + 4) f f w')) ∧ Upd (PoolF w1.heap.size wr) wr w' := by
  obtain ⟨p, S, T, M, h1, h2⟩ := h.ex
  refine (unpinK h1 hc n).mono ?_
  rintro e w' ⟨rfl, hP, hu⟩
  have hP := hP.mono (c' := c + 4) (by omega)
  by_cases h0 : (unpinS T n).2 = 0
  · have hk : ∃ r, pinS T n = .ok r := by
      cases hp : pinS T n with
      | ok r => exact ⟨r, rfl⟩
      | error e =>
        have he := pin_err hp
        unfold unpinS at h0
        rw [hp] at h0
        have h0 : e = 0 := h0
        omega
    obtain ⟨r, hr⟩ := hk
    obtain ⟨g1, g2, g3, g4⟩ := pinS_ok hr
    have hm := (h1.inv.fr r g1).1
    obtain rfl : n = (r.1.no : Nat) := by omega
    have hpp : pinsP T.L r.1.no = r.1.pins := pinsP_of h1.inv.nos g1
    have hf : 0 < f r.1.no := by rw [← h2, hpp]; omega
    obtain ⟨u1, u2⟩ := h1.inv.unpin_pins hm (by rw [hpp]; omega)
    refine ⟨_, rfl, .inl ⟨u1, r.1.no, rfl, hm, hf, h.go hu ⟨p, S, _, M, hP, fun k => ?_⟩⟩, hu⟩
    rw [u2, h2, h2]
    rfl
  · rw [unpin_out h0] at hP
    exact ⟨_, rfl, .inr ⟨h0, h.go hu ⟨p, S, T, M, hP, h2⟩⟩, hu⟩
theorem KX.evict (h : KX w w1 P l d pg fr x q pb c f f wr) (hc : c ≤ 990) (n : Int) : Calls Tryz.prog 30 #[.pointer (some ⟨P, 0, none⟩), .int .i64 n] wr fun e w' => ∃ y, e = .returned (.int .i64 y) ∧ (∀ m : Nat, n = (m : Nat) → m < pg → y = if f m = 0 then 0 else 121) ∧ KX w w1 P l d pg fr x q pb (c + 4) f f w' ∧ Upd (PoolF w1.heap.size wr) wr w' := by
  obtain ⟨p, S, T, M, h1, h2⟩ := h.ex
  refine (evictK h1 hc n).mono ?_
  rintro e w' ⟨p', M', rfl, hP, hu, g1, g2, g3⟩
  refine ⟨_, rfl, fun m e hm => ?_, h.go hu ⟨p', _, _, M', hP.mono (by omega), fun m => (g2 m).trans (h2 m)⟩, hu⟩
  subst e
  rw [g3 ⟨by omega, by rw [h1.inv.pgs]; omega⟩, Int.toNat_natCast, h2]
end
end Go.Proofs.YtdfccegeihfdpaaGreatDoor
