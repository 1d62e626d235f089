/-
  PoolFrames: the law, walked.
-/
import Derived.Test.YtdfccegeihfdpaaGreatDoorPkH
import Derived.Test.YtdfccegeihfdpaaGreatDoorPkI
namespace Go.Proofs.YtdfccegeihfdpaaGreatDoor
open Go Go.RowKit

/-- What a round's call leaves: y is its answer. -/
def FetQ (w w0 : World) (P l d pg fr x q pb c : Nat) (f : Nat → Nat) (bq : Nat) (z : CaV) (y : Int) (w' : World) : Prop := (y = 0 ∧ ∃ m : Nat, z.n = (m : Nat) ∧ m < pg ∧ KY w w0 P l d pg fr x q pb (c + 4) f (setN f m (f m + 1)) bq z w') ∨ (y ≠ 0 ∧ KY w w0 P l d pg fr x q pb (c + 4) f f bq z w')
def UnpQ (w w0 : World) (P l d pg fr x q pb c : Nat) (f : Nat → Nat) (bq : Nat) (z : CaV) (y : Int) (w' : World) : Prop := (y = 0 ∧ ∃ m : Nat, z.n = (m : Nat) ∧ m < pg ∧ 0 < f m ∧ KY w w0 P l d pg fr x q pb (c + 4) f (setN f m (f m - 1)) bq z w') ∨ (y ≠ 0 ∧ KY w w0 P l d pg fr x q pb (c + 4) f f bq z w')
section
variable {w w0 wr : World} {P l d pg fr x q pb c : Nat} {f : Nat → Nat} {bq : Nat} {z : CaV} {y : Int}
theorem FetQ.cells (h : FetQ w w0 P l d pg fr x q pb c f bq z y wr) : KYc P l x q bq z wr := by
  rcases h with ⟨_, _, _, _, h⟩ | ⟨_, h⟩
  · exact h.cells
  · exact h.cells
theorem UnpQ.cells (h : UnpQ w w0 P l d pg fr x q pb c f bq z y wr) : KYc P l x q bq z wr := by
  rcases h with ⟨_, _, _, _, _, h⟩ | ⟨_, h⟩
  · exact h.cells
  · exact h.cells
theorem KY.fetch (h : KY w w0 P l d pg fr x q pb c f f bq z wr) (hc : c ≤ 980) : Calls Tryz.prog 23 #[.pointer (some ⟨P, 0, none⟩), .int .i64 z.n] wr fun e w' => ∃ y, e = .returned (.int .i64 y) ∧ FetQ w w0 P l d pg fr x q pb c f bq z y w' := by
  refine (h.kx.fetch (by omega) z.n).mono ?_
  rintro e w' ⟨y, rfl, (⟨h1, m, h2, h3, h4⟩ | ⟨h1, h2⟩), hu⟩
  · exact ⟨y, rfl, .inl ⟨h1, m, h2, h3, h.pool hu h4⟩⟩
  · exact ⟨y, rfl, .inr ⟨h1, h.pool hu h2⟩⟩
theorem KY.unpin (h : KY w w0 P l d pg fr x q pb c f f bq z wr) (hc : c ≤ 980) : Calls Tryz.prog 29 #[.pointer (some ⟨P, 0, none⟩), .int .i64 z.n] wr fun e w' => ∃ y, e = .returned (.int .i64 y) ∧ UnpQ w w0 P l d pg fr x q pb c f bq z y w' := by
  refine (h.kx.unpin (by omega) z.n).mono ?_
  rintro e w' ⟨y, rfl, (⟨h1, m, h2, h3, h4, h5⟩ | ⟨h1, h2⟩), hu⟩
  · exact ⟨y, rfl, .inl ⟨h1, m, h2, h3, h4, h.pool hu h5⟩⟩
  · exact ⟨y, rfl, .inr ⟨h1, h.pool hu h2⟩⟩
theorem KY.evict (h : KY w w0 P l d pg fr x q pb c f f bq z wr) (hc : c ≤ 980) : Calls Tryz.prog 30 #[.pointer (some ⟨P, 0, none⟩), .int .i64 z.n] wr fun e w' => ∃ y, e = .returned (.int .i64 y) ∧ (∀ m : Nat, z.n = (m : Nat) → m < pg → y = if f m = 0 then 0 else 121) ∧ KY w w0 P l d pg fr x q pb (c + 4) f f bq z w' := by
  refine (h.kx.evict (by omega) z.n).mono ?_
  rintro e w' ⟨y, rfl, h1, h2, hu⟩
  exact ⟨y, rfl, h1, h.pool hu h2⟩
end
set_option maxRecDepth 100000 in
set_option maxHeartbeats 16000000 in
theorem poolFrames_in (pages frames : Int) {w : World} {A0 : Option Addr} {N c0 : Nat} {L : List CaV} (hE : Els 5 CaV.cells w (.slice A0 N c0) L) (hN : L.length = N) (hW : HalfW w) (hz : 0 < w.heap.size) :
    Calls Tryz.prog 5 #[.int .i64 pages, .int .i64 frames, .slice A0 N c0] w fun e w' => e = .returned (.bool true) ∧ Upd (fun k => w.heap.size ≤ k) w w' := by
  have HR := Lib.hid (pright_ok pages frames hE hN)
  have HE := Lib.hid hE
  have HN := Lib.hid hN
  have HW := Lib.hid hW
  have HZ := Lib.hid hz
  clear hE hN hW hz
  go_enter Tryz.func5, Tryz.ntmps5
  go_wp2_with fail
  refine HR.out.mono ?_
  rintro e w0 ⟨b, rfl, hb, hu0⟩
  have HU0 : Hid (Upd (fun k => w.heap.size ≤ k) w w0) := Lib.hid hu0.any
  have HW0 := Lib.hid (HW.out.upd hu0 id)
  have HZ0 : Hid (0 < w0.heap.size) := Lib.hid (Nat.lt_of_lt_of_le HZ.out hu0.size)
  have HLE : Hid (w.heap.size ≤ w0.heap.size) := Lib.hid hu0.size
  clear hu0 HR
  cases b with
  | false =>
    clear hb
    go_wp2_with fail
    refine (awake_ok HW0.out HZ0.out).mono ?_
    rintro e w9 ⟨rfl, hu9⟩
    have HU9 : Hid (Upd (fun k => w.heap.size ≤ k) w w9) := Lib.hid (HU0.out.same (hu9.mono fun _ _ e => Nat.le_trans HLE.out e))
    clear hu9
    go_wp2_with fail
    go_ret
    exact ⟨rfl, HU9.out⟩
  | true =>
    obtain ⟨hpg, hfr, hlen, hok⟩ := hb rfl
    clear hb
    obtain ⟨pg, rfl⟩ : ∃ n : Nat, pages = (n : Nat) := ⟨pages.toNat, by omega⟩
    obtain ⟨fr, rfl⟩ : ∃ n : Nat, frames = (n : Nat) := ⟨frames.toNat, by omega⟩
    have hb := begun_ok w0 HW0.out HZ0.out pg fr (by omega) (by omega) (by omega) (by omega)
    have HB := Lib.hid hb
    have HPG : Hid (1 ≤ pg ∧ pg ≤ 20) := Lib.hid ⟨by omega, by omega⟩
    have HFR : Hid (1 ≤ fr ∧ fr ≤ 20) := Lib.hid ⟨by omega, by omega⟩
    have HOK := Lib.hid hok
    have HLEN : Hid (N ≤ 100) := Lib.hid (by have := HN.out; omega)
    have hpgI : (pg : Int) ≤ 20 := by omega
    clear hb hpg hfr hlen hok
    go_wp2_with fail
    refine HB.out.mono ?_
    rintro e w1 ⟨x, rfl, hbeg⟩
    obtain ⟨P, l, q, d, p1, S1, T1, hx1, h1, hT1, _, _, hrn⟩ := begK HW0.out HPG.out HFR.out hbeg
    obtain ⟨_, _, hqge, _⟩ := hrn.ex
    have hu1 := (Upd.refl Nowhere w1).alloc (.cells #[.int .i64 0, .int .i64 0, .int .i64 0, .int .i64 0, .int .i64 0, .int .i64 0, .int .i64 0, .int .i64 0, .int .i64 0, .int .i64 0, .int .i64 0, .int .i64 0, .int .i64 0, .int .i64 0, .int .i64 0, .int .i64 0, .int .i64 0, .int .i64 0, .int .i64 0, .int .i64 0] 78)
    have HK1 : Hid (KX w w0 P l d pg fr x q w1.heap.size 0 (fun _ => 0) (fun _ => 0) (w1.alloc (.cells #[.int .i64 0, .int .i64 0, .int .i64 0, .int .i64 0, .int .i64 0, .int .i64 0, .int .i64 0, .int .i64 0, .int .i64 0, .int .i64 0, .int .i64 0, .int .i64 0, .int .i64 0, .int .i64 0, .int .i64 0, .int .i64 0, .int .i64 0, .int .i64 0, .int .i64 0, .int .i64 0] 78))) := Lib.hid
      ⟨⟨p1, S1, T1, _, (h1.up hu1).more (by omega), fun m => by rw [hT1]; rfl⟩, ⟨0, hrn.empty.upd hu1 id⟩, PinsAt.new w1, hx1.alloc _, (HU0.out.same hbeg.upd.any).alloc _, HLE.out, hqge, hbeg.upd.size, HPG.out.2⟩
    clear hbeg hx1 h1 hT1 hrn hqge hu1 HB
    go_wp2_with fail
    obtain ⟨wA, hwA⟩ : ∃ wA, w1.alloc (.cells #[.int .i64 0, .int .i64 0, .int .i64 0, .int .i64 0, .int .i64 0, .int .i64 0, .int .i64 0, .int .i64 0, .int .i64 0, .int .i64 0, .int .i64 0, .int .i64 0, .int .i64 0, .int .i64 0, .int .i64 0, .int .i64 0, .int .i64 0, .int .i64 0, .int .i64 0, .int .i64 0] 78) = wA := ⟨_, rfl⟩
    obtain ⟨pb, hpb⟩ : ∃ pb, w1.heap.size = pb := ⟨_, rfl⟩
    rw [hwA, hpb] at HK1
    rw [hwA, hpb]
    clear hwA hpb
    go_loopw [9] (fun s9 wr => ∃ (i : Nat) (f : Nat → Nat), s9 = .int .i64 (i : Int) ∧ i ≤ N ∧ KX w w0 P l d pg fr x q pb (4 * i) f f wr) (fun s9 _ => N - (intOf s9).toNat)
    case atStart => exact ⟨0, _, rfl, Nat.zero_le _, HK1.out⟩
    case round =>
      obtain ⟨i, f, rfl, hi, hK⟩ := hrel
      have HK := Lib.hid hK
      by_cases hlt : i < N
      · obtain ⟨⟨kind, n, key, vh, vd⟩, hx⟩ : ∃ y, L[i]? = some y := ⟨_, List.getElem?_eq_getElem (by rw [HN.out]; exact hlt)⟩
        have hE2 := HE.out.newer hK.upd fun k hk e => by omega
        obtain ⟨b, off, rfl, hbl, r0, r1, r2, r3, r4⟩ := CaV.get hE2 hx
        have hco := HOK.out _ (List.mem_of_getElem? hx)
        unfold CaV.ok at hco
        simp only at r0 r1 r2 r3 r4 hco
        have HCO := Lib.hid hco
        have hiI : (i : Int) < (N : Int) := by omega
        have hNI : (N : Int) ≤ 100 := by have := HLEN.out; omega
        obtain ⟨bq, hbq⟩ : ∃ bq, wr.heap.size = bq := ⟨_, rfl⟩
        have hq : KY w w0 P l d pg fr x q pb (4 * i) f f bq ⟨kind, n, key, vh, vd⟩ (wr.alloc (.cells #[.int .i64 kind, .int .i64 n, strV key, .bool vh, strV vd] 61)) := ⟨hK.up ((Upd.refl Nowhere wr).alloc _), hbq ▸ Blk.new wr _ _⟩
        generalize hwA : wr.alloc (.cells #[.int .i64 kind, .int .i64 n, strV key, .bool vh, strV vd] 61) = wA at *
        have z : KYc P l x q bq ⟨kind, n, key, vh, vd⟩ wA := hq.cells
        obtain ⟨z1, z2, z3, z4, z5, z6, z7, z8⟩ := z
        simp only at z4 z5 z6 z7 z8
        have HQ := Lib.hid hq
        clear hK hE2 hx hco hq
        go_upto_region 11 with (fail)
        clear r0 r1 r2 r3 r4
        go_cut [11] (fun t11 wz => t11 = .bool (inR pg n) ∧ KY w w0 P l d pg fr x q pb (4 * i) f f bq ⟨kind, n, key, vh, vd⟩ wz)
        case first =>
          by_cases h0 : 0 ≤ n
          · go_wp2_with fail
            go_meet
            exact ⟨by simp [inR, h0], HQ.out⟩
          · go_wp2_with fail
            go_meet
            exact ⟨by simp [inR]; omega, HQ.out⟩
        case rest =>
          obtain ⟨rfl, hq⟩ := hcut
          have z : KYc P l x q bq ⟨kind, n, key, vh, vd⟩ wc := hq.cells
          clear z1 z2 z3 z4 z5 z6 z7 z8 HQ
          obtain ⟨z1, z2, z3, z4, z5, z6, z7, z8⟩ := z
          simp only at z4 z5 z6 z7 z8
          have HQ := Lib.hid hq
          have c2 := hq.blk.cell 0
          clear hq
          go_upto_region 12 with (fail)
          go_cut [48] (fun t48 wz => t48 = .int .i64 kind ∧ KY w w0 P l d pg fr x q pb (4 * i) f f bq ⟨kind, n, key, vh, vd⟩ wz)
          case first =>
            go_wp2_with fail
            go_meet
            exact ⟨rfl, HQ.out⟩
          case rest =>
            obtain ⟨rfl, hq⟩ := hcut
            have z : KYc P l x q bq ⟨kind, n, key, vh, vd⟩ wc := hq.cells
            clear z1 z2 z3 z4 z5 z6 z7 z8 HQ c2
            obtain ⟨z1, z2, z3, z4, z5, z6, z7, z8⟩ := z
            simp only at z4 z5 z6 z7 z8
            have HQ := Lib.hid hq
            clear hq
            go_at_K
            go_step
            go_cut [11, 12] (fun _ _ wz => ∃ f' : Nat → Nat, KX w w0 P l d pg fr x q pb (4 * i + 4) f' f' wz)
            case first =>
              by_cases e0 : kind = 0
              · subst e0
                have dd : wc.cell? ⟨x, 1, none⟩ = some (.pointer (some ⟨l, 0, none⟩)) ∧ wc.cell? ⟨x, 2, none⟩ = some (.pointer (some ⟨P, 0, none⟩)) ∧ wc.cell? ⟨x, 3, none⟩ = some (.pointer (some ⟨q, 0, none⟩)) ∧ wc.cell? ⟨bq, 0, none⟩ = some (.int .i64 0) ∧ wc.cell? ⟨bq, 1, none⟩ = some (.int .i64 n) ∧ wc.cell? ⟨bq, 2, none⟩ = some (strV key) ∧ wc.cell? ⟨bq, 3, none⟩ = some (.bool vh) ∧ wc.cell? ⟨bq, 4, none⟩ = some (strV vd) := HQ.out.cells
                have d2 : wc.drew.cell? ⟨x, 1, none⟩ = some (.pointer (some ⟨l, 0, none⟩)) ∧ wc.drew.cell? ⟨x, 2, none⟩ = some (.pointer (some ⟨P, 0, none⟩)) ∧ wc.drew.cell? ⟨x, 3, none⟩ = some (.pointer (some ⟨q, 0, none⟩)) ∧ wc.drew.cell? ⟨bq, 0, none⟩ = some (.int .i64 0) ∧ wc.drew.cell? ⟨bq, 1, none⟩ = some (.int .i64 n) ∧ wc.drew.cell? ⟨bq, 2, none⟩ = some (strV key) ∧ wc.drew.cell? ⟨bq, 3, none⟩ = some (.bool vh) ∧ wc.drew.cell? ⟨bq, 4, none⟩ = some (strV vd) := (HQ.out.up (Upd.refl Nowhere wc).drew).cells
                have HFE := Lib.hid ((HQ.out.up (Upd.refl Nowhere wc).drew).fetch (by omega))
                go_wp2_with fail
                go_cut [61] (fun t61 wz => ∃ (b : Bool) (y : Int), t61 = .bool b ∧ (b = true ↔ y = 0) ∧ FetQ w w0 P l d pg fr x q pb (4 * i) f bq ⟨0, n, key, vh, vd⟩ y wz)
                case first =>
                  go_region_held3 (fun w' => w'.cell? ⟨x, 1, none⟩ = some (.pointer (some ⟨l, 0, none⟩)) ∧ w'.cell? ⟨x, 2, none⟩ = some (.pointer (some ⟨P, 0, none⟩)) ∧ w'.cell? ⟨x, 3, none⟩ = some (.pointer (some ⟨q, 0, none⟩)) ∧ w'.cell? ⟨bq, 0, none⟩ = some (.int .i64 0) ∧ w'.cell? ⟨bq, 1, none⟩ = some (.int .i64 n) ∧ w'.cell? ⟨bq, 2, none⟩ = some (strV key) ∧ w'.cell? ⟨bq, 3, none⟩ = some (.bool vh) ∧ w'.cell? ⟨bq, 4, none⟩ = some (strV vd)) (first | with_reducible exact dd | with_reducible exact d2 | with_reducible exact k2)
                    (first
                      | (go_at_call 23
                         refine HFE.out.mono ?_
                         rintro e w2 ⟨y2, rfl, hF2⟩
                         have k2 : w2.cell? ⟨x, 1, none⟩ = some (.pointer (some ⟨l, 0, none⟩)) ∧ w2.cell? ⟨x, 2, none⟩ = some (.pointer (some ⟨P, 0, none⟩)) ∧ w2.cell? ⟨x, 3, none⟩ = some (.pointer (some ⟨q, 0, none⟩)) ∧ w2.cell? ⟨bq, 0, none⟩ = some (.int .i64 0) ∧ w2.cell? ⟨bq, 1, none⟩ = some (.int .i64 n) ∧ w2.cell? ⟨bq, 2, none⟩ = some (strV key) ∧ w2.cell? ⟨bq, 3, none⟩ = some (.bool vh) ∧ w2.cell? ⟨bq, 4, none⟩ = some (strV vd) := hF2.cells
                         have HF2 := Lib.hid hF2
                         clear hF2))
                  all_goals
                    go_wp2_with fail
                    go_meet
                    exact ⟨_, y2, rfl, by simp, HF2.out⟩
                case rest =>
                  obtain ⟨b, y, rfl, hb, hF⟩ := hcut
                  clear dd d2 HFE HQ z1 z2 z3 z4 z5 z6 z7 z8
                  cases b with
                  | true =>
                    rcases hF with ⟨_, m, hm, hmp, hK⟩ | ⟨hne, _⟩
                    · simp only at hm
                      subst hm
                      have b1 := hK.blk.cell 1
                      simp only [List.getElem?_toArray, List.getElem?_cons_zero, List.getElem?_cons_succ] at b1
                      have hm20 : m < 20 := by have := HPG.out; omega
                      have hmI : (m : Int) < 20 := by omega
                      have p0 := hK.kx.pins.get hm20
                      have p1 := hK.kx.pins.frozen m
                      have hfc := hK.kx.le_pins m
                      unfold setN at hfc
                      rw [if_pos rfl] at hfc
                      obtain ⟨v0, hv0⟩ : ∃ v0, f m = v0 := ⟨_, rfl⟩
                      rw [hv0] at p0 hfc
                      obtain ⟨v1, hv1⟩ : ∃ v1, v0 + 1 = v1 := ⟨_, rfl⟩
                      have a1 : (v0 : Int) + 1 = (v1 : Int) := by omega
                      have a3 : (v0 : Int) ≤ 1000 := by omega
                      have a4 : (v1 : Int) ≤ 1001 := by omega
                      have a2 : IntKind.i64.wrap ((v0 : Int) + 1) = (v1 : Int) := by rw [IntKind.wrap_i64]; omega
                      have HS : Hid (KX w w0 P l d pg fr x q pb (4 * i + 4) (setN f m v1) (setN f m v1) (wc.setCell ⟨pb, m, none⟩ (.int .i64 (v1 : Nat)))) := Lib.hid (by
                        have := hK.kx.set (y := v1) hmp
                        rw [hv0, hv1] at this
                        exact this)
                      clear hK hb hfc hv0 hv1 hm20
                      go_wp2_with fail
                      go_meet
                      exact ⟨_, HS.out⟩
                    · exact absurd (hb.1 rfl) hne
                  | false =>
                    rcases hF with ⟨h0, _⟩ | ⟨_, hK⟩
                    · exact absurd (hb.2 h0) (by decide)
                    · have HK2 := Lib.hid hK
                      clear hK hb
                      go_wp2_with fail
                      go_meet
                      exact ⟨f, HK2.out.kx⟩
              by_cases e1 : kind = 1
              · subst e1
                have dd : wc.cell? ⟨x, 1, none⟩ = some (.pointer (some ⟨l, 0, none⟩)) ∧ wc.cell? ⟨x, 2, none⟩ = some (.pointer (some ⟨P, 0, none⟩)) ∧ wc.cell? ⟨x, 3, none⟩ = some (.pointer (some ⟨q, 0, none⟩)) ∧ wc.cell? ⟨bq, 0, none⟩ = some (.int .i64 1) ∧ wc.cell? ⟨bq, 1, none⟩ = some (.int .i64 n) ∧ wc.cell? ⟨bq, 2, none⟩ = some (strV key) ∧ wc.cell? ⟨bq, 3, none⟩ = some (.bool vh) ∧ wc.cell? ⟨bq, 4, none⟩ = some (strV vd) := HQ.out.cells
                have d2 : wc.drew.cell? ⟨x, 1, none⟩ = some (.pointer (some ⟨l, 0, none⟩)) ∧ wc.drew.cell? ⟨x, 2, none⟩ = some (.pointer (some ⟨P, 0, none⟩)) ∧ wc.drew.cell? ⟨x, 3, none⟩ = some (.pointer (some ⟨q, 0, none⟩)) ∧ wc.drew.cell? ⟨bq, 0, none⟩ = some (.int .i64 1) ∧ wc.drew.cell? ⟨bq, 1, none⟩ = some (.int .i64 n) ∧ wc.drew.cell? ⟨bq, 2, none⟩ = some (strV key) ∧ wc.drew.cell? ⟨bq, 3, none⟩ = some (.bool vh) ∧ wc.drew.cell? ⟨bq, 4, none⟩ = some (strV vd) := (HQ.out.up (Upd.refl Nowhere wc).drew).cells
                have HUN := Lib.hid ((HQ.out.up (Upd.refl Nowhere wc).drew).unpin (by omega))
                go_wp2_with fail
                go_cut [77] (fun t77 wz => ∃ (b : Bool) (y : Int), t77 = .bool b ∧ (b = true ↔ y = 0) ∧ UnpQ w w0 P l d pg fr x q pb (4 * i) f bq ⟨1, n, key, vh, vd⟩ y wz)
                case first =>
                  go_region_held3 (fun w' => w'.cell? ⟨x, 1, none⟩ = some (.pointer (some ⟨l, 0, none⟩)) ∧ w'.cell? ⟨x, 2, none⟩ = some (.pointer (some ⟨P, 0, none⟩)) ∧ w'.cell? ⟨x, 3, none⟩ = some (.pointer (some ⟨q, 0, none⟩)) ∧ w'.cell? ⟨bq, 0, none⟩ = some (.int .i64 1) ∧ w'.cell? ⟨bq, 1, none⟩ = some (.int .i64 n) ∧ w'.cell? ⟨bq, 2, none⟩ = some (strV key) ∧ w'.cell? ⟨bq, 3, none⟩ = some (.bool vh) ∧ w'.cell? ⟨bq, 4, none⟩ = some (strV vd)) (first | with_reducible exact dd | with_reducible exact d2 | with_reducible exact k2)
                    (first
                      | (go_at_call 29
                         refine HUN.out.mono ?_
                         rintro e w2 ⟨y2, rfl, hF2⟩
                         have k2 : w2.cell? ⟨x, 1, none⟩ = some (.pointer (some ⟨l, 0, none⟩)) ∧ w2.cell? ⟨x, 2, none⟩ = some (.pointer (some ⟨P, 0, none⟩)) ∧ w2.cell? ⟨x, 3, none⟩ = some (.pointer (some ⟨q, 0, none⟩)) ∧ w2.cell? ⟨bq, 0, none⟩ = some (.int .i64 1) ∧ w2.cell? ⟨bq, 1, none⟩ = some (.int .i64 n) ∧ w2.cell? ⟨bq, 2, none⟩ = some (strV key) ∧ w2.cell? ⟨bq, 3, none⟩ = some (.bool vh) ∧ w2.cell? ⟨bq, 4, none⟩ = some (strV vd) := hF2.cells
                         have HF2 := Lib.hid hF2
                         clear hF2))
                  all_goals
                    go_wp2_with fail
                    go_meet
                    exact ⟨_, y2, rfl, by simp, HF2.out⟩
                case rest =>
                  obtain ⟨b, y, rfl, hb, hF⟩ := hcut
                  clear dd d2 HUN z1 z2 z3 z4 z5 z6 z7 z8
                  cases b with
                  | true =>
                    rcases hF with ⟨_, m, hm, hmp, hpos, hK⟩ | ⟨hne, _⟩
                    · simp only at hm
                      subst hm
                      have b1 := hK.blk.cell 1
                      simp only [List.getElem?_toArray, List.getElem?_cons_zero, List.getElem?_cons_succ] at b1
                      have hm20 : m < 20 := by have := HPG.out; omega
                      have hmI : (m : Int) < 20 := by omega
                      have p0 := hK.kx.pins.get hm20
                      have p1 := hK.kx.pins.frozen m
                      have hfc := HQ.out.kx.le_pins m
                      obtain ⟨v0, hv0⟩ : ∃ v0, f m = v0 := ⟨_, rfl⟩
                      rw [hv0] at p0 hfc hpos
                      obtain ⟨v1, hv1⟩ : ∃ v1, v0 - 1 = v1 := ⟨_, rfl⟩
                      have a1 : (v0 : Int) - 1 = (v1 : Int) := by omega
                      have a3 : (v0 : Int) ≤ 1000 := by omega
                      have a4 : (v1 : Int) ≤ 1001 := by omega
                      have a2 : IntKind.i64.wrap ((v0 : Int) - 1) = (v1 : Int) := by rw [IntKind.wrap_i64]; omega
                      have HS : Hid (KX w w0 P l d pg fr x q pb (4 * i + 4) (setN f m v1) (setN f m v1) (wc.setCell ⟨pb, m, none⟩ (.int .i64 (v1 : Nat)))) := Lib.hid (by
                        have := hK.kx.set (y := v1) hmp
                        rw [hv0, hv1] at this
                        exact this)
                      clear hK hb hfc hv0 hv1 hm20 hpos HQ
                      go_wp2_with fail
                      go_meet
                      exact ⟨_, HS.out⟩
                    · exact absurd (hb.1 rfl) hne
                  | false =>
                    rcases hF with ⟨h0, _⟩ | ⟨_, hK⟩
                    · exact absurd (hb.2 h0) (by decide)
                    · have HK2 := Lib.hid hK
                      clear hK hb
                      go_wp2_with fail
                      go_meet
                      exact ⟨f, HK2.out.kx⟩
              by_cases e4 : kind = 4
              · subst e4
                have dd : wc.cell? ⟨x, 1, none⟩ = some (.pointer (some ⟨l, 0, none⟩)) ∧ wc.cell? ⟨x, 2, none⟩ = some (.pointer (some ⟨P, 0, none⟩)) ∧ wc.cell? ⟨x, 3, none⟩ = some (.pointer (some ⟨q, 0, none⟩)) ∧ wc.cell? ⟨bq, 0, none⟩ = some (.int .i64 4) ∧ wc.cell? ⟨bq, 1, none⟩ = some (.int .i64 n) ∧ wc.cell? ⟨bq, 2, none⟩ = some (strV key) ∧ wc.cell? ⟨bq, 3, none⟩ = some (.bool vh) ∧ wc.cell? ⟨bq, 4, none⟩ = some (strV vd) := HQ.out.cells
                have d2 : wc.drew.cell? ⟨x, 1, none⟩ = some (.pointer (some ⟨l, 0, none⟩)) ∧ wc.drew.cell? ⟨x, 2, none⟩ = some (.pointer (some ⟨P, 0, none⟩)) ∧ wc.drew.cell? ⟨x, 3, none⟩ = some (.pointer (some ⟨q, 0, none⟩)) ∧ wc.drew.cell? ⟨bq, 0, none⟩ = some (.int .i64 4) ∧ wc.drew.cell? ⟨bq, 1, none⟩ = some (.int .i64 n) ∧ wc.drew.cell? ⟨bq, 2, none⟩ = some (strV key) ∧ wc.drew.cell? ⟨bq, 3, none⟩ = some (.bool vh) ∧ wc.drew.cell? ⟨bq, 4, none⟩ = some (strV vd) := (HQ.out.up (Upd.refl Nowhere wc).drew).cells
                have HEV := Lib.hid ((HQ.out.up (Upd.refl Nowhere wc).drew).evict (by omega))
                go_wp2_with fail
                go_cut [12] (fun t12 wz => ∃ y : Int, t12 = .int .i64 y ∧ (∀ m : Nat, n = (m : Nat) → m < pg → y = if f m = 0 then 0 else 121) ∧ KY w w0 P l d pg fr x q pb (4 * i + 4) f f bq ⟨4, n, key, vh, vd⟩ wz)
                case first =>
                  go_region_held3 (fun w' => w'.cell? ⟨x, 1, none⟩ = some (.pointer (some ⟨l, 0, none⟩)) ∧ w'.cell? ⟨x, 2, none⟩ = some (.pointer (some ⟨P, 0, none⟩)) ∧ w'.cell? ⟨x, 3, none⟩ = some (.pointer (some ⟨q, 0, none⟩)) ∧ w'.cell? ⟨bq, 0, none⟩ = some (.int .i64 4) ∧ w'.cell? ⟨bq, 1, none⟩ = some (.int .i64 n) ∧ w'.cell? ⟨bq, 2, none⟩ = some (strV key) ∧ w'.cell? ⟨bq, 3, none⟩ = some (.bool vh) ∧ w'.cell? ⟨bq, 4, none⟩ = some (strV vd)) (first | with_reducible exact dd | with_reducible exact d2 | with_reducible exact k2)
                    (first
                      | (go_at_call 30
                         refine HEV.out.mono ?_
                         rintro e w2 ⟨y2, rfl, hy2, hF2⟩
                         have k2 : w2.cell? ⟨x, 1, none⟩ = some (.pointer (some ⟨l, 0, none⟩)) ∧ w2.cell? ⟨x, 2, none⟩ = some (.pointer (some ⟨P, 0, none⟩)) ∧ w2.cell? ⟨x, 3, none⟩ = some (.pointer (some ⟨q, 0, none⟩)) ∧ w2.cell? ⟨bq, 0, none⟩ = some (.int .i64 4) ∧ w2.cell? ⟨bq, 1, none⟩ = some (.int .i64 n) ∧ w2.cell? ⟨bq, 2, none⟩ = some (strV key) ∧ w2.cell? ⟨bq, 3, none⟩ = some (.bool vh) ∧ w2.cell? ⟨bq, 4, none⟩ = some (strV vd) := hF2.cells
                         have HY2 := Lib.hid hy2
                         have HF2 := Lib.hid hF2
                         clear hF2 hy2))
                  all_goals
                    go_wp2_with fail
                    go_meet
                    exact ⟨y2, rfl, HY2.out, HF2.out⟩
                case rest =>
                  obtain ⟨y, rfl, hy, hK⟩ := hcut
                  clear dd d2 HEV HQ z1 z2 z3 z4 z5 z6 z7 z8
                  cases hin : inR pg n with
                  | false =>
                    have HK2 := Lib.hid hK
                    clear hK hy
                    go_wp2_with fail
                    go_meet
                    exact ⟨f, HK2.out.kx⟩
                  | true =>
                    obtain ⟨m, rfl⟩ : ∃ m : Nat, n = (m : Nat) := by
                      unfold inR at hin
                      simp at hin
                      exact ⟨n.toNat, by omega⟩
                    have hmp : m < pg := by
                      unfold inR at hin
                      simp at hin
                      omega
                    have hy := hy m rfl hmp
                    have b1 := hK.blk.cell 1
                    simp only [List.getElem?_toArray, List.getElem?_cons_zero, List.getElem?_cons_succ] at b1
                    have hm20 : m < 20 := by have := HPG.out; omega
                    have hmI : (m : Int) < 20 := by omega
                    have p0 := hK.kx.pins.get hm20
                    obtain ⟨v0, hv0⟩ : ∃ v0, f m = v0 := ⟨_, rfl⟩
                    rw [hv0] at p0 hy
                    have HK2 := Lib.hid hK
                    clear hK hm20 hin
                    by_cases h0 : v0 = 0
                    · rw [if_pos h0] at hy
                      subst hy h0
                      go_wp2_with fail
                      go_meet
                      exact ⟨f, HK2.out.kx⟩
                    · rw [if_neg h0] at hy
                      have h3 : 0 < v0 := by omega
                      have h1 : (0 : Int) < (v0 : Int) := by omega
                      have h2 : decide ((0 : Int) < (v0 : Int)) = true := decide_eq_true h1
                      subst hy
                      go_wp2_with fail
                      go_meet
                      exact ⟨f, HK2.out.kx⟩
              · have HDO := Lib.hid (HQ.out.kx.does (key := key) (vh := vh) (vd := vd) (n := n) (by omega) HCO.out e0 e1 e4)
                go_wp2_with fail
                refine HDO.out.mono ?_
                rintro e w2 ⟨b2, rfl, hK⟩
                have HK2 := Lib.hid hK
                clear hK
                go_wp2_with fail
                go_meet
                exact ⟨f, HK2.out.mono (by omega)⟩
            case rest =>
              obtain ⟨f', hK⟩ := hcut
              clear z1 z2 z3 z4 z5 z6 z7 z8 HQ HCO
              have dd : wc.cell? ⟨x, 2, none⟩ = some (.pointer (some ⟨P, 0, none⟩)) := by
                have := hK.play.cell 2
                simpa only [List.getElem?_toArray, List.getElem?_cons_zero, List.getElem?_cons_succ] using this
              have HK3 := Lib.hid hK
              have HFS := Lib.hid (hK.frames (by omega))
              clear hK
              go_wp2_with fail
              refine HFS.out.mono ?_
              rintro e w4 ⟨v2, os, B, rfl, hO, hF, hu2⟩
              have hK := HK3.out.up hu2
              obtain ⟨A, cc, rfl, _⟩ := hO.els.val
              clear dd HFS HK3 hu2
              have HO := Lib.hid hO
              have HF := Lib.hid hF
              have HK4 := Lib.hid hK
              obtain ⟨ln, hln⟩ : ∃ ln, os.length = ln := ⟨_, rfl⟩
              have HLN := Lib.hid hln
              have hlf : ¬ (fr : Int) < (ln : Int) := by have := hF.len; omega
              have hl20 : (ln : Int) ≤ 20 := by have := hF.len; have := HFR.out; omega
              rw [hln]
              clear hO hF hK hln
              go_wp2_with fail
              go_loopw [15, 14] (fun s15 s14 wl => ∃ k : Nat, s15 = .int .i64 (k : Int) ∧ k ≤ ln ∧ s14 = .int .i64 (heldL (os.take k) : Nat) ∧ Upd Nowhere w4 wl) (fun s15 _ _ => ln - (intOf s15).toNat)
              case atStart => exact ⟨0, rfl, Nat.zero_le _, rfl, Upd.refl _ _⟩
              case round =>
                obtain ⟨k, rfl, hk, rfl, hu⟩ := hrel
                have HU := Lib.hid hu
                by_cases hlt2 : k < ln
                · obtain ⟨o, ho⟩ : ∃ o, os[k]? = some o := ⟨_, List.getElem?_eq_getElem (by rw [HLN.out]; exact hlt2)⟩
                  obtain ⟨g, off2, c2, hv, hg, q0, q1⟩ := OwnF.at_ (HO.out.upd hu fun _ _ => id) ho
                  cases hv
                  obtain ⟨hno, hpins⟩ := HF.out.fr o (List.mem_of_getElem? ho)
                  have hno20 : o.1.no < 20 := by have := HPG.out; omega
                  have p0 := (HK4.out.up hu).pins.get hno20
                  have HT := Lib.hid (heldL_take ho)
                  have hhl : heldL (os.take k) ≤ 20 := by have := heldL_le os k; have := HLN.out; omega
                  rw [← hpins] at p0
                  obtain ⟨pv, hpv⟩ : ∃ pv, o.1.pins = pv := ⟨_, rfl⟩
                  obtain ⟨nv, hnv⟩ : ∃ nv, o.1.no = nv := ⟨_, rfl⟩
                  obtain ⟨hv, hhv⟩ : ∃ hv, heldL (os.take k) = hv := ⟨_, rfl⟩
                  rw [hpv] at HT p0 q1
                  rw [hnv] at p0 q0 hno20
                  rw [hhv] at hhl HT
                  rw [hhv]
                  have hkI : (k : Int) < (ln : Int) := by omega
                  have hnI : (nv : Int) < 20 := by omega
                  have hhI : (hv : Int) ≤ 20 := by omega
                  clear hu ho hno hpins hpv hnv hhv hno20 hhl
                  by_cases hp : 0 < pv
                  · have hp1 : (0 : Int) < (pv : Int) := by omega
                    rw [if_pos hp] at HT
                    go_wp2_with fail
                    go_region
                    all_goals
                      go_wp2_with fail
                      go_roundw
                      case rel => exact ⟨k + 1, by go_num, by omega, by rw [HT.out]; go_num, HU.out.drew⟩
                      case measure => simp [intOf]; omega
                  · obtain rfl : pv = 0 := by omega
                    rw [show ((0 : Nat) : Int) = 0 from rfl] at p0 q1
                    rw [if_neg hp] at HT
                    go_wp2_with fail
                    go_region
                    all_goals
                      go_wp2_with fail
                      go_roundw
                      case rel => exact ⟨k + 1, by go_num, by omega, by rw [HT.out]; rfl, HU.out.drew⟩
                      case measure => simp [intOf]; omega
                · have e : k = ln := by omega
                  subst e
                  have hkk : ¬ (k : Int) < (k : Int) := by omega
                  have hh : heldL (os.take k) = heldN f' pg := by
                    rw [← HLN.out, List.take_length]
                    exact HF.out.held
                  have hh2 : ((heldL (os.take k) : Nat) : Int) = (heldN f' pg : Int) - (heldN f' 0 : Nat) := by
                    rw [hh]
                    show _ = (heldN f' pg : Int) - ((0 : Nat) : Int)
                    omega
                  have HH2 := Lib.hid hh2
                  clear hu hh hh2
                  go_wp2_with fail
                  go_loopw [16, 14] (fun s16 s14 wl => ∃ n2 : Nat, s16 = .int .i64 (n2 : Int) ∧ n2 ≤ pg ∧ s14 = .int .i64 ((heldN f' pg : Int) - (heldN f' n2 : Nat)) ∧ Upd Nowhere w4 wl) (fun s16 _ _ => pg - (intOf s16).toNat)
                  case atStart => exact ⟨0, rfl, Nat.zero_le _, by rw [HH2.out], HU.out⟩
                  case round =>
                    obtain ⟨n2, rfl, hn2, rfl, hu⟩ := hrel
                    have HU2 := Lib.hid hu
                    by_cases hlt3 : n2 < pg
                    · have hn20 : n2 < 20 := by have := HPG.out; omega
                      have p0 := (HK4.out.up hu).pins.get hn20
                      have HT := Lib.hid (heldN_succ f' n2)
                      have h1 := heldN_le f' pg
                      have h2 := heldN_le f' n2
                      have hp20 := HPG.out.2
                      obtain ⟨fv, hfv⟩ : ∃ fv, f' n2 = fv := ⟨_, rfl⟩
                      obtain ⟨hv, hhv⟩ : ∃ hv, (heldN f' pg : Int) - (heldN f' n2 : Nat) = hv := ⟨_, rfl⟩
                      have HHV := Lib.hid hhv
                      rw [hfv] at HT p0
                      rw [hhv]
                      have hv1 : -20 ≤ hv := by omega
                      have hv2 : hv ≤ 20 := by omega
                      have hnI : (n2 : Int) < 20 := by omega
                      have hnP : (n2 : Int) < (pg : Int) := by omega
                      clear hu hfv hhv hn20 h1 h2 hp20
                      by_cases hp : 0 < fv
                      · have hp1 : (0 : Int) < (fv : Int) := by omega
                        rw [if_pos hp] at HT
                        go_wp2_with fail
                        go_roundw
                        case rel => exact ⟨n2 + 1, by go_num, by omega, by rw [HT.out, ← HHV.out]; go_num, HU2.out⟩
                        case measure => simp [intOf]; omega
                      · obtain rfl : fv = 0 := by omega
                        rw [show ((0 : Nat) : Int) = 0 from rfl] at p0
                        rw [if_neg hp] at HT
                        go_wp2_with fail
                        go_roundw
                        case rel => exact ⟨n2 + 1, by go_num, by omega, by rw [HT.out, ← HHV.out]; rfl, HU2.out⟩
                        case measure => simp [intOf]; omega
                    · have e : n2 = pg := by omega
                      subst e
                      have hkk2 : ¬ (n2 : Int) < (n2 : Int) := by omega
                      rw [Int.sub_self]
                      clear hu
                      go_wp2_with fail
                      go_roundw
                      case rel => exact ⟨i + 1, f', by go_num, by omega, (HK4.out.up HU2.out).mono (by omega)⟩
                      case measure => simp [intOf]; omega
      · have e : i = N := by omega
        subst e
        have hii : ¬ (i : Int) < (i : Int) := by omega
        clear hK
        obtain ⟨p, S, T, M, h1, _⟩ := HK.out.ex
        have HH := Lib.hid h1.half
        have HHZ : Hid (0 < wr.heap.size) := Lib.hid h1.half.lt
        have HLW : Hid (w.heap.size ≤ wr.heap.size) := Lib.hid HK.out.upd.size
        clear h1
        go_wp2_with fail
        refine (awake_ok HH.out HHZ.out).mono ?_
        rintro e w9 ⟨rfl, hu9⟩
        have HU9 : Hid (Upd (fun k => w.heap.size ≤ k) w w9) := Lib.hid (HK.out.upd.same (hu9.mono fun _ _ e => Nat.le_trans HLW.out e))
        clear hu9
        go_wp2_with fail
        go_ret
        exact ⟨rfl, HU9.out⟩
end Go.Proofs.YtdfccegeihfdpaaGreatDoor
