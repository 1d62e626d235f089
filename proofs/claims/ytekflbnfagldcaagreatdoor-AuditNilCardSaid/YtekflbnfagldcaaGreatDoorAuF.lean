/-
  AuditNil: nothing is wrong on an empty disk.
-/
import Derived.Test.YtekflbnfagldcaaGreatDoorAuG
namespace Go.Proofs.YtekflbnfagldcaaGreatDoor
open Go Ev Go.RowKit

theorem zP_len (n : Nat) : (zP n).length = 2 * n := by
  induction n with
  | zero => rfl
  | succ n ih => rw [zP_succ, List.length_append, ih]; simp; omega
theorem zP_get (n k : Nat) (h : k < n) : (zP n)[k * 2]? = some (.int .i64 0) ∧ (zP n)[k * 2 + 1]? = some (.slice none 0 0) := by
  induction n with
  | zero => omega
  | succ n ih =>
    rw [zP_succ]
    by_cases hk : k < n
    · rw [List.getElem?_append_left (by rw [zP_len]; omega), List.getElem?_append_left (by rw [zP_len]; omega)]
      exact ih hk
    · obtain rfl : k = n := by omega
      rw [List.getElem?_append_right (by rw [zP_len]; omega), List.getElem?_append_right (by rw [zP_len]; omega), zP_len]
      have e1 : k * 2 - 2 * k = 0 := by omega
      have e2 : k * 2 + 1 - 2 * k = 1 := by omega
      rw [e1, e2]
      exact ⟨rfl, rfl⟩
theorem own_cells {w : World} {B size n : Nat} {e : TypeId} {v : Value} {xs : List Value} (h : w.ownsRow B e size v n xs) (hn : 0 < n) : ∃ G c, v = .slice (some ⟨G, 0, none⟩) n c ∧ ∀ j u, xs[j]? = some u → w.cell? ⟨G, j, none⟩ = some u := by
  obtain ⟨hl, h | ⟨G, c, cur, rfl, _, hh, _, _, _, ht⟩⟩ := h
  · omega
  · refine ⟨G, c, rfl, fun j u hj => ?_⟩
    have hlt : j < xs.length := (List.getElem?_eq_some_iff.1 hj).1
    rw [← ht, List.getElem?_take, if_pos (by omega)] at hj
    simp only [World.cell?, hh]
    simpa using hj
section
variable {g p f : Int} {ρ : Ren} {bx b4 o4 b6 o6 B n m : Nat} {pg tn : Value} {w0 w w' : World}
theorem LookP.besides {F : Nat → Prop} (h : LookP g p f ρ bx b4 o4 b6 o6 B w0 n m pg tn w) (hu : Upd F w w') (hF : ∀ k, F k → ¬ InCore auB2 ρ k ∧ k ≠ bx ∧ pg.ownBlock ≠ some k ∧ tn.ownBlock ≠ some k ∧ B ≤ k) : LookP g p f ρ bx b4 o4 b6 o6 B w0 n m pg tn w' :=
  ⟨h.core.upd low2 hu fun _ _ hc he => (hF _ he).1 hc, Blk.upd h.blk hu fun he => (hF _ he).2.1 rfl, own_upd h.pgs hu fun _ hk he => (hF _ he).2.2.1 hk, own_upd h.tns hu fun _ hk he => (hF _ he).2.2.2.1 hk, h.nx, h.low, h.upd.trans hu fun _ _ he => .inr (.inr (hF _ he).2.2.2.2)⟩
theorem LookP.pages (h : LookP g p f ρ bx b4 o4 b6 o6 B w0 n m pg tn w) (hn : 0 < n) : ∃ G c, pg = .slice (some ⟨G, 0, none⟩) n c ∧ ∀ k, k < n → w.cell? ⟨G, k * 2, none⟩ = some (.int .i64 0) ∧ w.cell? ⟨G, k * 2 + 1, none⟩ = some (.slice none 0 0) := by
  obtain ⟨G, c, rfl, hc⟩ := own_cells h.pgs hn
  exact ⟨G, c, rfl, fun k hk => ⟨hc _ _ (zP_get n k hk).1, hc _ _ (zP_get n k hk).2⟩⟩
theorem LookP.pageAt {G c : Nat} (h : LookP g p f ρ bx b4 o4 b6 o6 B w0 n m (.slice (some ⟨G, 0, none⟩) n c) tn w) (k : Nat) (hk : k < n) : w.cell? ⟨G, k * 2, none⟩ = some (.int .i64 0) ∧ w.cell? ⟨G, k * 2 + 1, none⟩ = some (.slice none 0 0) := by
  obtain ⟨G', c', he, hc⟩ := h.pages (by omega)
  cases he
  exact hc k hk
theorem LookP.turns (h : LookP g p f ρ bx b4 o4 b6 o6 B w0 n m pg tn w) (hn : 0 < m) : ∃ G c, tn = .slice (some ⟨G, 0, none⟩) m c ∧ ∀ k, k < m → w.cell? ⟨G, k, none⟩ = some (.int .i64 0) := by
  obtain ⟨G, c, rfl, hc⟩ := own_cells h.tns hn
  exact ⟨G, c, rfl, fun k hk => hc _ _ (by rw [List.getElem?_replicate, if_pos hk])⟩
end
section
variable {g p f : Int} (hp0 : 1 ≤ p) (hp1 : p ≤ 64) {ρ : Ren} {bx b4 o4 b6 o6 B : Nat} {pg tn : Value} {w0 : World}
include hp0 hp1
set_option maxRecDepth 100000
set_option maxHeartbeats 4000000 in
theorem wrong_ok {n : Nat} (hn : (n : Int) = p) (w : World) (h : LookP g p f ρ bx b4 o4 b6 o6 B w0 n n pg tn w) (hvl : VR ρ (envOf (auSyms g p f [])) (.pointer (some ⟨131, 0, none⟩)) (.pointer (some ⟨b6, o6, none⟩))) (hB : B ≤ w.heap.size) :
    Calls Tryz.prog 16 #[.pointer (some ⟨bx, 0, none⟩)] w fun e w' => e = .returned (.slice none 0 0) ∧ LookP g p f ρ bx b4 o4 b6 o6 B w0 n n pg tn w' ∧ Upd (InCore auB2 ρ) w w' := by
  obtain ⟨G, c, rfl, hpg⟩ := h.pages (by omega)
  have hb := Blk.cell h.blk
  have HPG := Lib.hid hpg
  have HP := Lib.hid h
  have HVL := Lib.hid hvl
  clear hpg h hvl
  have hmm := @run_makeMap Tryz.prog
  have hb1 := Blk.cell (Blk.alloc HP.out.blk (.map #[] 0))
  have HM : Hid ((w.alloc (.map #[] 0)).heap[w.heap.size]? = some (.map #[] 0)) := Lib.hid (heap_alloc_new w _)
  have HNM : Hid (¬ InCore auB2 ρ w.heap.size) := Lib.hid fun h => absurd (HP.out.core.lt self2 low2 h) (Nat.lt_irrefl _)
  go_enter Tryz.func16, Tryz.ntmps16
  go_wp2
  clear hmm hb hb1
  have HP1 := Lib.hid (HP.out.far ((Upd.refl Nowhere w).alloc (.map #[] 0)))
  go_loopw [17] (fun i wr => ∃ k : Nat, k ≤ n ∧ i = .int .i64 k ∧ LookP g p f ρ bx b4 o4 b6 o6 B w0 n n (.slice (some ⟨G, 0, none⟩) n c) tn wr ∧ wr.heap[w.heap.size]? = some (.map #[] 0) ∧ Upd (InCore auB2 ρ) w wr) (fun i _ => n - (intOf i).toNat)
  case atStart => exact ⟨0, by omega, rfl, HP1.out, HM.out, (Upd.refl _ w).alloc _⟩
  case round =>
    obtain ⟨k, hk, rfl, hP, hM, hU⟩ := hrel
    have hw0 : w.heap.size < wr.heap.size := lt_of_heap hM
    by_cases hlt : k < n
    · obtain ⟨q0, q1⟩ := hP.pageAt k hlt
      have hi : (k : Int) < n := by omega
      have b1 := Blk.cell (Blk.alloc hP.blk (.cells #[.int .i64 0, .slice none 0 0] 86))
      have n1 := Blk.new wr 86 #[.int .i64 0, .slice none 0 0]
      have c1 := n1.cell
      have HP2 := Lib.hid (hP.far ((Upd.refl Nowhere wr).alloc (.cells #[.int .i64 0, .slice none 0 0] 86)))
      have HNP : Hid (¬ InCore auB2 ρ wr.heap.size) := Lib.hid fun h => absurd (hP.core.lt self2 low2 h) (Nat.lt_irrefl _)
      have HM2 : Hid ((wr.alloc (.cells #[.int .i64 0, .slice none 0 0] 86)).heap[w.heap.size]? = some (.map #[] 0)) := Lib.hid ((((Upd.refl Nowhere wr).alloc (.cells #[.int .i64 0, .slice none 0 0] 86)).block _ hw0 id).trans hM)
      have HN1 := Lib.hid n1
      have HU2 := Lib.hid (hU.alloc (.cells #[.int .i64 0, .slice none 0 0] 86))
      clear hP hM n1 hU
      go_upto_region 5 with (fail)
      clear q0 q1
      have k4 := b1 4
      have p0 := c1 0
      clear b1 c1
      generalize wr.alloc (.cells #[.int .i64 0, .slice none 0 0] 86) = w2 at *
      generalize wr.heap.size = bp at *
      go_region_held3 (fun w' => w'.cell? ⟨bx, 4, none⟩ = some (.pointer (some ⟨b6, o6, none⟩)) ∧ w'.cell? ⟨bp, 0, none⟩ = some (.int .i64 0)) (first | go_keep | exact ⟨k4, p0⟩ | exact ⟨k5, p5⟩)
        (first
          | (go_at_call 13
             refine (last_ok (core_drew HP2.out.core) HVL.out).mono ?_
             rintro e w3 ⟨rfl, hw3, hu3⟩
             have hp3 := (HP2.out.far ((Upd.refl Nowhere w2).drew)).go hu3 hw3
             have hn3 := HN1.out.drew.upd hu3 HNP.out
             have k5 := Blk.cell hp3.blk 4
             have p5 := hn3.cell 0
             have p6 := hn3.cell 1
             have HM3 := Lib.hid ((hu3.block _ (lt_of_heap HM2.out) HNM.out).trans HM2.out)
             have HP3 := Lib.hid hp3
             have HU3 := Lib.hid (HU2.out.drew.trans hu3 fun _ _ h => h)
             clear hw3 hu3 hp3 hn3))
      all_goals
        clear k4 p0
        go_wp2_with fail
        go_loopw [34] (fun i wx => i = .int .i64 0 ∧ wx = w3) (fun _ _ => 0)
        case atStart => exact ⟨rfl, rfl⟩
        case round =>
          obtain ⟨rfl, rfl⟩ := hrel
          go_wp2_with fail
          go_roundw
          case rel => exact ⟨k + 1, by omega, by go_num, HP3.out, HM3.out, HU3.out⟩
          case measure => simp [intOf]; omega
    · have e : ¬ (k : Int) < p := by omega
      have b1 := Blk.cell hP.blk
      have HP2 := Lib.hid hP
      have HM2 := Lib.hid hM
      have HU2 := Lib.hid hU
      clear hP hM hU
      go_wp2_with fail
      refine (check_ok HP2.out.core HVL.out).mono ?_
      rintro e w3 ⟨rfl, hw3, hu3⟩
      have HP3 := Lib.hid (HP2.out.go hu3 hw3)
      have HU3 := Lib.hid (HU2.out.trans hu3 fun _ _ h => h)
      have HM3 := Lib.hid ((hu3.block _ (lt_of_heap HM2.out) HNM.out).trans HM2.out)
      clear hw3 hu3 b1
      go_wp2_with fail
      refine (keys_ok _ w3).mono ?_
      rintro e w4 ⟨rfl, rfl⟩
      have hs3 : w.heap.size < w3.heap.size := lt_of_heap HM3.out
      have hm4 : (w3.alloc (.cells #[.map (some w.heap.size)] 99)).heap[w.heap.size]? = some (.map #[] 0) := (((Upd.refl Nowhere w3).alloc (.cells #[.map (some w.heap.size)] 99)).block _ hs3 id).trans HM3.out
      have HP4 := Lib.hid (HP3.out.far ((Upd.refl Nowhere w3).alloc (.cells #[.map (some w.heap.size)] 99)))
      have HSO := Lib.hid (sorted_ok HP4.out.core hm4 (Blk.new w3 99 #[.map (some w.heap.size)]))
      clear hm4
      go_wp2_with fail
      refine HSO.out.mono ?_
      rintro e w5 ⟨rfl, hu5⟩
      have HU5 := Lib.hid hu5
      clear hu5
      go_wp2
      go_ret
      refine ⟨rfl, HP4.out.besides HU5.out ?_, (HU3.out.alloc (.cells #[.map (some w.heap.size)] 99)).trans HU5.out fun j hj h => absurd hj (h.elim (fun e => by omega) fun e => by omega)⟩
      rintro j (rfl | rfl)
      · exact ⟨HNM.out, Nat.ne_of_gt (Blk.lt HP.out.blk), fun h => absurd (own_lt HP.out.pgs h) (Nat.lt_irrefl _), fun h => absurd (own_lt HP.out.tns h) (Nat.lt_irrefl _), hB⟩
      · exact ⟨fun h => absurd (HP3.out.core.lt self2 low2 h) (Nat.lt_irrefl _), Nat.ne_of_gt (Blk.lt HP3.out.blk), fun h => absurd (own_lt HP3.out.pgs h) (Nat.lt_irrefl _), fun h => absurd (own_lt HP3.out.tns h) (Nat.lt_irrefl _), by omega⟩
end
end Go.Proofs.YtekflbnfagldcaaGreatDoor
