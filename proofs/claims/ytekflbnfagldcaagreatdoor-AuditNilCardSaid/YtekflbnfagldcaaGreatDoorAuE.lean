/-
  AuditNil: a look begins.
-/
import Derived.Test.YtekflbnfagldcaaGreatDoorAuD
import Derived.Deep.RegionLaw
namespace Go.Proofs.YtekflbnfagldcaaGreatDoor
open Go Ev Go.RowKit

/-- What a look at an empty disk is when it was begun. -/
def Began (g p f : Int) (ρ : Ren) (w : World) (bx : Nat) (w' : World) : Prop := ∃ ρ' b4 o4 b6 o6 B w0 pg tn, LookP g p f ρ' bx b4 o4 b6 o6 B w0 p.toNat p.toNat pg tn w' ∧
  VR ρ' (envOf (auSyms g p f [])) d1 (.pointer (some ⟨b4, o4, none⟩)) ∧ VR ρ' (envOf (auSyms g p f [])) (.pointer (some ⟨131, 0, none⟩)) (.pointer (some ⟨b6, o6, none⟩)) ∧ cutR 100 ρ' = ρ ∧ w.heap.size ≤ bx ∧ w.heap.size ≤ B ∧ B ≤ w'.heap.size ∧
  (∀ k, k < w.heap.size → InCore auB2 ρ' k → InCore auB0 ρ k) ∧ Upd (InCore auB0 ρ) w w'
section
variable {g p f : Int} (hg0 : 64 ≤ g) (hg1 : g ≤ 1024) (hp0 : 1 ≤ p) (hp1 : p ≤ 64) (hf0 : 1 ≤ f) (hf1 : f ≤ 64) {ρ : Ren}
include hg0 hg1 hp0 hp1 hf0 hf1
set_option maxRecDepth 100000
set_option maxHeartbeats 8000000 in
theorem begin_ok (b0 o0 : Nat) (w : World) (hw : AuAt g p f auB0 100 ρ w) (hd : VR ρ (envOf (auSyms g p f [])) (.pointer (some ⟨19, 0, none⟩)) (.pointer (some ⟨b0, o0, none⟩))) :
    Calls Tryz.prog 10 #[.pointer (some ⟨b0, o0, none⟩), .agg #[.int .i64 g, .int .i64 p, .int .i64 f]] w fun e w' => ∃ bx, e = .returned (.tuple #[.pointer (some ⟨bx, 0, none⟩), .int .i64 0]) ∧ Began g p f ρ w bx w' := by
  have e1 : IntKind.i64.wrap (2 + g) = 2 + g := by rw [IntWalk.i64_in _ (by omega)]
  have e5 : decide ((2 + g + 2 * p : Int) < 2 + g + 2 * p) = false := by simp
  have HD := Lib.hid hd
  have HNS : Hid (¬ InCore auB0 ρ w.heap.size) := Lib.hid fun h => absurd (hw.lt self0 low0 h) (Nat.lt_irrefl _)
  have HW := Lib.hid (show AuAt g p f auB0 100 ρ (w.alloc (.cells #[.int .i64 g, .int .i64 p, .int .i64 f] 23)) from CoreAt.alloc hw low0 _)
  clear hd hw
  have hbS := Blk.new w 23 #[.int .i64 g, .int .i64 p, .int .i64 f]
  have cS := hbS.cell
  have HBS := Lib.hid hbS
  clear hbS
  go_enter Tryz.func10, Tryz.ntmps10
  go_wp2_with fail
  refine (shapeCheck_ok hg0 hg1 hp0 hp1 hf0 hf1 HW.out).mono ?_
  rintro e w1 ⟨rfl, hw1, hu1⟩
  have hb1 := HBS.out.upd hu1 HNS.out
  have c1 := hb1.cell
  have HW1 := Lib.hid hw1
  have HU1 := Lib.hid hu1
  have HB1 := Lib.hid hb1
  clear hw1 hu1 hb1 cS
  go_upto_region 5 with (fail)
  go_region_held3 (fun w' => w'.cell? ⟨w.heap.size, 0, none⟩ = some (.int .i64 g) ∧ w'.cell? ⟨w.heap.size, 1, none⟩ = some (.int .i64 p) ∧ w'.cell? ⟨w.heap.size, 2, none⟩ = some (.int .i64 f)) (first | go_keep | exact ⟨hk0, hk1, hk2⟩ | exact ⟨hm0, hm1, hm2⟩)
    (first
      | (go_at_call 30
         refine (diskSectors_ok (core_drew HW1.out) HD.out).mono ?_
         rintro e w2 ⟨rfl, hw2, hu2⟩
         have hbb := HB1.out.drew.upd hu2 HNS.out
         have hk0 := hbb.cell 0
         have hk1 := hbb.cell 1
         have hk2 := hbb.cell 2
         have HW2 := Lib.hid hw2
         have HB2 := Lib.hid hbb
         have HU2 := Lib.hid (HU1.out.drew.trans hu2 fun _ _ h => h)
         clear hw2 hu2 hbb)
      | (go_at_call 25
         refine (shapeSectors_ok hg0 hg1 hp0 hp1 hf0 hf1 HW2.out).mono ?_
         rintro e w3 ⟨rfl, hw3, hu3⟩
         have hbb := HB2.out.upd hu3 HNS.out
         have hm0 := hbb.cell 0
         have hm1 := hbb.cell 1
         have hm2 := hbb.cell 2
         have HW3 := Lib.hid hw3
         have HB3 := Lib.hid hbb
         have HU3 := Lib.hid (HU2.out.trans hu3 fun _ _ h => h)
         clear hw3 hu3 hbb))
  all_goals
    clear hk0 hk1 hk2
    go_upto_region 7 with (fail)
    go_region_held3 (fun w' => w'.cell? ⟨w.heap.size, 0, none⟩ = some (.int .i64 g) ∧ w'.cell? ⟨w.heap.size, 1, none⟩ = some (.int .i64 p) ∧ w'.cell? ⟨w.heap.size, 2, none⟩ = some (.int .i64 f)) (first | go_keep | exact ⟨hm0, hm1, hm2⟩ | exact ⟨hn0, hn1, hn2⟩)
      (first
        | (go_at_call 31
           refine (copied_ok' (core_drew HW3.out) HD.out).mono ?_
           rintro e w4 ⟨ρ4, v4, rfl, hv4, hle4, hw4, hu4, hin4⟩
           obtain ⟨b4, o4, rfl⟩ := vr_ptr hv4
           have HNS4 : Hid (¬ InCore auB1 ρ4 w.heap.size) := Lib.hid fun h => (hin4 _ h).elim HNS.out fun h => absurd (Nat.lt_of_lt_of_le HB3.out.lt h) (Nat.lt_irrefl _)
           have hbb := HB3.out.drew.upd hu4 HNS.out
           have hn0 := hbb.cell 0
           have hn1 := hbb.cell 1
           have hn2 := hbb.cell 2
           have HW4 := Lib.hid hw4
           have HIN4 := Lib.hid hin4
           have HLE4 := Lib.hid hle4
           have HB4 := Lib.hid hbb
           have HU4 := Lib.hid (HU3.out.drew.trans hu4 fun _ _ h => h)
           have HV4 := Lib.hid hv4
           clear hw4 hu4 hbb hle4 hin4 hv4))
  all_goals
    have HW5 := Lib.hid (CoreAt.alloc HW4.out low1 (.cells #[.pointer (some ⟨b4, o4, none⟩), .int .i64 g, .int .i64 p, .int .i64 f, .pointer none, .slice none 0 0, .slice none 0 0] 45))
    have HX5 := Lib.hid (Blk.new w4 45 #[.pointer (some ⟨b4, o4, none⟩), .int .i64 g, .int .i64 p, .int .i64 f, .pointer none, .slice none 0 0, .slice none 0 0])
    have HB5 := Lib.hid (HB4.out.alloc (.cells #[.pointer (some ⟨b4, o4, none⟩), .int .i64 g, .int .i64 p, .int .i64 f, .pointer none, .slice none 0 0, .slice none 0 0] 45))
    have HU5 := Lib.hid (HU4.out.alloc (.cells #[.pointer (some ⟨b4, o4, none⟩), .int .i64 g, .int .i64 p, .int .i64 f, .pointer none, .slice none 0 0, .slice none 0 0] 45))
    have HNX5 : Hid (¬ InCore auB1 ρ4 w4.heap.size) := Lib.hid fun h => absurd (HW4.out.lt self1 low1 h) (Nat.lt_irrefl _)
    have HLT : Hid (w.heap.size < w4.heap.size) := Lib.hid HB4.out.lt
    clear hm0 hm1 hm2 hn0 hn1 hn2
    have k0 := HX5.out.cell 0
    have s0 := HB5.out.cell 0
    go_upto_region 8 with (fail)
    go_region_held3 (fun w' => w'.cell? ⟨w4.heap.size, 0, none⟩ = some (.pointer (some ⟨b4, o4, none⟩)) ∧ w'.cell? ⟨w.heap.size, 0, none⟩ = some (.int .i64 g)) (first | go_keep | exact ⟨k0, s0⟩ | exact ⟨k1, s1⟩)
      (first
        | (go_at_call 32
           refine (open_ok' hg0 hg1 hp0 hp1 (core_drew HW5.out) HV4.out).mono ?_
           rintro e w6 ⟨ρ6, v6, rfl, hv6, hle6, hw6, hu6, hin6⟩
           obtain ⟨b6, o6, rfl, hvl⟩ := vr_tup hv6
           have hxx := HX5.out.drew.upd hu6 HNX5.out
           have hbb := HB5.out.drew.upd hu6 HNS4.out
           have k1 := hxx.cell 0
           have s1 := hbb.cell 0
           have HW6 := Lib.hid hw6
           have HX6 := Lib.hid hxx
           have HB6 := Lib.hid hbb
           have HVL := Lib.hid hvl
           have HVD := Lib.hid (HV4.out.mono (cutR_le hle6))
           have HU6 := Lib.hid hu6
           have HIN6 := Lib.hid hin6
           have HLE := Lib.hid ((cutR_cut (by omega)).symm.trans ((congrArg (cutR 100) hle6).trans HLE4.out) : cutR 100 ρ6 = ρ)
           clear hv6 hvl hle6 hw6 hu6 hin6 hxx hbb))
  all_goals
    clear k0 s0 k1 s1
    have c6 := HX6.out.cell
    have f6 := HX6.out.frozen
    have HBX : Hid (w.heap.size < w4.heap.size) := HLT
    go_upto_region 12 with (fail)
    have HNX6 : Hid (¬ InCore auB2 ρ6 w4.heap.size) := Lib.hid fun h => (HIN6.out _ h).elim HNX5.out fun h => absurd (Nat.lt_of_lt_of_le HX5.out.lt h) (Nat.lt_irrefl _)
    have HNS6 : Hid (¬ InCore auB2 ρ6 w.heap.size) := Lib.hid fun h => (HIN6.out _ h).elim HNS4.out fun h => absurd (Nat.lt_of_lt_of_le HB5.out.lt h) (Nat.lt_irrefl _)
    have hs7 := Upd.setCell (F := fun k => k = w4.heap.size) (Upd.refl _ w6) (p := ⟨w4.heap.size, 4, none⟩) (fun _ => rfl) (.pointer (some ⟨b6, o6, none⟩))
    have HX7 := HX6.out.set_ 4 (.pointer (some ⟨b6, o6, none⟩))
    have HB7 := Lib.hid (HB6.out.upd hs7 (Nat.ne_of_lt HLT.out))
    have HC7 := HW6.out.upd low2 hs7 fun b _ hc he => HNX6.out (he ▸ hc)
    have HP : Hid (LookP g p f ρ6 w4.heap.size b4 o4 b6 o6 (w6.setCell ⟨w4.heap.size, 4, none⟩ (.pointer (some ⟨b6, o6, none⟩))).heap.size (w6.setCell ⟨w4.heap.size, 4, none⟩ (.pointer (some ⟨b6, o6, none⟩))) 0 0 (.slice none 0 0) (.slice none 0 0) (w6.setCell ⟨w4.heap.size, 4, none⟩ (.pointer (some ⟨b6, o6, none⟩)))) :=
      Lib.hid ⟨HC7, HX7, World.ownsRow_nil _ _ _ _, World.ownsRow_nil _ _ _ _, HNX6.out, fun b hb => HC7.lt self2 low2 hb, Upd.refl _ _⟩
    have HUW : Hid (Upd (InCore auB0 ρ) w (w6.setCell ⟨w4.heap.size, 4, none⟩ (.pointer (some ⟨b6, o6, none⟩)))) := Lib.hid (((((Upd.refl (InCore auB0 ρ) w).alloc (.cells #[.int .i64 g, .int .i64 p, .int .i64 f] 23)).trans HU5.out fun _ _ h => h).drew.trans HU6.out fun k hk hc => (HIN4.out k hc).elim id fun h => by
        have h1 : w3.heap.size ≤ k := h
        have h2 := HU3.out.size
        have h3 := ((Upd.refl (InCore auB0 ρ) w).alloc (.cells #[.int .i64 g, .int .i64 p, .int .i64 f] 23)).size
        exact absurd hk (by omega)).trans hs7 fun k hk e => absurd hk (by
          have := HLT.out
          omega))
    have HCC : Hid (∀ k, k < w.heap.size → InCore auB2 ρ6 k → InCore auB0 ρ k) := Lib.hid fun k hk hc => (HIN6.out k hc).elim (fun hc => (HIN4.out k hc).elim id fun h => by
        have h1 : w3.heap.size ≤ k := h
        have h2 := HU3.out.size
        have h3 := ((Upd.refl (InCore auB0 ρ) w).alloc (.cells #[.int .i64 g, .int .i64 p, .int .i64 f] 23)).size
        exact absurd hk (by omega)) fun h => absurd (Nat.lt_of_lt_of_le (Nat.lt_trans hk (Nat.lt_trans HLT.out HX5.out.lt)) h) (Nat.lt_irrefl _)
    have HLS : Hid (w.heap.size < (w6.setCell ⟨w4.heap.size, 4, none⟩ (.pointer (some ⟨b6, o6, none⟩))).heap.size) := Lib.hid (HB7.out.lt)
    clear c6 f6 hs7 HX7 HC7
    generalize w6.setCell ⟨w4.heap.size, 4, none⟩ (.pointer (some ⟨b6, o6, none⟩)) = w7 at *
    have s1 := HB7.out.cell 1
    go_wp2_with fail
    go_loopw [50] (fun i wr => ∃ (k : Nat) (pg tn : Value), (k : Int) ≤ p ∧ i = .int .i64 k ∧ LookP g p f ρ6 w4.heap.size b4 o4 b6 o6 w7.heap.size w7 k k pg tn wr) (fun i _ => p.toNat - (intOf i).toNat)
    case atStart => exact ⟨0, _, _, by omega, rfl, HP.out⟩
    case round =>
      clear s1
      obtain ⟨k, pg, tn, hk, rfl, hP⟩ := hrel
      have HP1 := Lib.hid hP
      clear hP
      by_cases hlt : (k : Int) < p
      · have HSW : Hid (Blk wr w.heap.size 23 #[.int .i64 g, .int .i64 p, .int .i64 f]) := Lib.hid (HB7.out.upd HP1.out.upd fun h => h.elim HNS6.out fun h => h.elim (Nat.ne_of_lt HLT.out) (Nat.not_le_of_lt HLS.out))
        have k0 := Blk.cell HP1.out.blk 0
        have s0 := HSW.out.cell 0
        go_upto_region 15 with (fail)
        go_region_held3 (fun w' => w'.cell? ⟨w4.heap.size, 0, none⟩ = some (.pointer (some ⟨b4, o4, none⟩)) ∧ w'.cell? ⟨w.heap.size, 0, none⟩ = some (.int .i64 g)) (first | go_keep | exact ⟨k0, s0⟩ | exact ⟨k1, s1⟩ | exact ⟨k2, s2⟩)
          (first
            | (go_at_call 33
               refine (load_ok hg0 hg1 hp0 hp1 k hlt (core_drew HP1.out.core) HVD.out).mono ?_
               rintro e w8 ⟨rfl, hw8, hu8⟩
               have hp8 := (HP1.out.far ((Upd.refl Nowhere _).drew)).go hu8 hw8
               have hbb := HSW.out.drew.upd hu8 HNS6.out
               have k1 := Blk.cell hp8.blk 0
               have s1 := hbb.cell 0
               have HP8 := Lib.hid hp8
               clear hp8 hbb hw8 hu8)
            | (go_at_call 33
               refine (load_ok hg0 hg1 hp0 hp1 k hlt (core_drew (HP1.out.far ((Upd.refl Nowhere wr).alloc (.cells #[.int .i64 0, .slice none 0 0] 86))).core) HVD.out).mono ?_
               rintro e w8 ⟨rfl, hw8, hu8⟩
               have hp8 := (HP1.out.far (((Upd.refl Nowhere wr).alloc (.cells #[.int .i64 0, .slice none 0 0] 86)).drew)).go hu8 hw8
               have hbb := (HSW.out.alloc (.cells #[.int .i64 0, .slice none 0 0] 86)).drew.upd hu8 HNS6.out
               have hpg := (Blk.new wr 86 #[.int .i64 0, .slice none 0 0]).drew.upd hu8 fun h => absurd (HP1.out.core.lt self2 low2 h) (Nat.lt_irrefl _)
               have k1 := Blk.cell hp8.blk 0
               have s1 := hbb.cell 0
               have hfx := Blk.far (p := ⟨wr.heap.size, 1, none⟩) (Blk.far (p := ⟨wr.heap.size, 0, none⟩) hp8.blk (Nat.ne_of_lt (Blk.lt HP1.out.blk)) (.int .i64 0)) (Nat.ne_of_lt (Blk.lt HP1.out.blk)) (.slice none 0 0)
               have hfs := Blk.far (p := ⟨wr.heap.size, 1, none⟩) (Blk.far (p := ⟨wr.heap.size, 0, none⟩) hbb (Nat.ne_of_lt (Blk.lt HSW.out)) (.int .i64 0)) (Nat.ne_of_lt (Blk.lt HSW.out)) (.slice none 0 0)
               have k2 := hfx.cell 0
               have s2 := hfs.cell 0
               have q1 := hpg.cell
               have r1 := hpg.frozen
               clear hfx hfs
               have HPG := Lib.hid hpg
               have HP8 := Lib.hid hp8
               clear hp8 hbb hw8 hu8 hpg))
        · have HP9 := Lib.hid (HP8.out.far ((Upd.refl Nowhere w8).alloc (.cells #[.int .i64 0, .slice none 0 0] 86)))
          have HPG9 := Lib.hid (Blk.new w8 86 #[.int .i64 0, .slice none 0 0])
          clear k0 s0 k1 s1
          generalize w8.alloc (.cells #[.int .i64 0, .slice none 0 0] 86) = w9 at *
          generalize w8.heap.size = bp at *
          go_upto_region 18 with (fail)
          have b9 := Blk.cell HP9.out.blk
          have f9 := Blk.frozen HP9.out.blk
          have q9 := HPG9.out.cell
          have b9a := Blk.cell (Blk.alloc HP9.out.blk (.cells #[.int .i64 0, .slice none 0 0] 86))
          have f9a := Blk.frozen (Blk.alloc HP9.out.blk (.cells #[.int .i64 0, .slice none 0 0] 86))
          have hB9 : w7.heap.size ≤ w9.heap.size := HP9.out.upd.size
          have hk9 : k ≤ 1000 := by omega
          go_region_law
            (first
              | (obtain ⟨A10, c10, w10, hrun10, hx10, hp10⟩ := (HP9.out.far ((Upd.refl Nowhere w9).drew)).addPage hk9 hB9
                 refine step_append_run rfl _ _ _ rfl rfl rfl hrun10 ?_
                 have b10 := Blk.cell hx10
                 have f10 := Blk.frozen hx10
                 have HP10 := Lib.hid hp10
                 clear hp10 hrun10 hx10))
          all_goals
            clear b9 f9 q9 b9a f9a b10 f10
            have hB10 : w7.heap.size ≤ (w10.setCell ⟨w4.heap.size, 5, none⟩ (.slice A10 (k + 1) c10)).heap.size := HP10.out.upd.size
            generalize w10.setCell ⟨w4.heap.size, 5, none⟩ (.slice A10 (k + 1) c10) = w11 at *
            obtain ⟨A12, c12, w12, hrun12, hx12, hp12⟩ := HP10.out.addTurn hk9 hB10
            have b11 := Blk.cell HP10.out.blk
            have f11 := Blk.frozen HP10.out.blk
            have b12 := Blk.cell hx12
            have f12 := Blk.frozen hx12
            have HP12 := Lib.hid hp12
            clear hp12 hx12
            go_wp2_with (at_builtin; refine wpList_append_run rfl _ _ _ rfl rfl rfl hrun12 ?_)
            go_roundw
            case rel => exact ⟨k + 1, _, _, by omega, by go_num, HP12.out⟩
            case measure => simp [intOf]; omega
        · have HPG9 := Lib.hid ((HPG.out.set_ 0 (.int .i64 0)).set_ 1 (.slice none 0 0))
          have HP9 := Lib.hid (HP8.out.beside (Upd.setCell (F := fun k => k = wr.heap.size) (p := ⟨wr.heap.size, 1, none⟩) (Upd.setCell (F := fun k => k = wr.heap.size) (Upd.refl _ w8) (p := ⟨wr.heap.size, 0, none⟩) (fun _ => rfl) (.int .i64 0)) (fun _ => rfl) (.slice none 0 0)) (fun h => absurd (HP1.out.core.lt self2 low2 h) (Nat.lt_irrefl _)) (Nat.ne_of_gt (Blk.lt HP1.out.blk)) (fun h => absurd (own_lt HP1.out.pgs h) (Nat.lt_irrefl _)) (fun h => absurd (own_lt HP1.out.tns h) (Nat.lt_irrefl _)) HP1.out.upd.size)
          clear k0 s0 k1 s1 k2 s2 q1 r1
          generalize (w8.setCell ⟨wr.heap.size, 0, none⟩ (.int .i64 0)).setCell ⟨wr.heap.size, 1, none⟩ (.slice none 0 0) = w9 at *
          generalize wr.heap.size = bp at *
          go_upto_region 18 with (fail)
          have b9 := Blk.cell HP9.out.blk
          have f9 := Blk.frozen HP9.out.blk
          have q9 := HPG9.out.cell
          have b9a := Blk.cell (Blk.alloc HP9.out.blk (.cells #[.int .i64 0, .slice none 0 0] 86))
          have f9a := Blk.frozen (Blk.alloc HP9.out.blk (.cells #[.int .i64 0, .slice none 0 0] 86))
          have hB9 : w7.heap.size ≤ w9.heap.size := HP9.out.upd.size
          have hk9 : k ≤ 1000 := by omega
          go_region_law
            (first
              | (obtain ⟨A10, c10, w10, hrun10, hx10, hp10⟩ := (HP9.out.far ((Upd.refl Nowhere w9).drew)).addPage hk9 hB9
                 refine step_append_run rfl _ _ _ rfl rfl rfl hrun10 ?_
                 have b10 := Blk.cell hx10
                 have f10 := Blk.frozen hx10
                 have HP10 := Lib.hid hp10
                 clear hp10 hrun10 hx10))
          all_goals
            clear b9 f9 q9 b9a f9a b10 f10
            have hB10 : w7.heap.size ≤ (w10.setCell ⟨w4.heap.size, 5, none⟩ (.slice A10 (k + 1) c10)).heap.size := HP10.out.upd.size
            generalize w10.setCell ⟨w4.heap.size, 5, none⟩ (.slice A10 (k + 1) c10) = w11 at *
            obtain ⟨A12, c12, w12, hrun12, hx12, hp12⟩ := HP10.out.addTurn hk9 hB10
            have b11 := Blk.cell HP10.out.blk
            have f11 := Blk.frozen HP10.out.blk
            have b12 := Blk.cell hx12
            have f12 := Blk.frozen hx12
            have HP12 := Lib.hid hp12
            clear hp12 hx12
            go_wp2_with (at_builtin; refine wpList_append_run rfl _ _ _ rfl rfl rfl hrun12 ?_)
            go_roundw
            case rel => exact ⟨k + 1, _, _, by omega, by go_num, HP12.out⟩
            case measure => simp [intOf]; omega
      · have e : ¬ (k : Int) < p := by omega
        have hkp : p.toNat = k := by omega
        go_wp2
        go_ret2
        refine ⟨w4.heap.size, rfl, ρ6, b4, o4, b6, o6, w7.heap.size, w7, pg, tn, by rw [hkp]; exact HP1.out, HVD.out, HVL.out, HLE.out, Nat.le_of_lt HLT.out, Nat.le_of_lt HLS.out, HP1.out.upd.size, HCC.out, HUW.out.trans HP1.out.upd fun j hj h => ?_⟩
        rcases h with h | h | h
        · exact HCC.out j hj h
        · have := HLT.out; omega
        · have := HLS.out; omega
end
end Go.Proofs.YtekflbnfagldcaaGreatDoor
