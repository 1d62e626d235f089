/-
  AuditNil: no sector of the pages is torn.
-/
import Derived.Test.YtekflbnfagldcaaGreatDoorAuB
namespace Go.Proofs.YtekflbnfagldcaaGreatDoor
open Go Ev Go.RowKit

set_option maxRecDepth 100000
set_option maxHeartbeats 2000000 in
theorem stampOpen_ok (b o c : Nat) (w : World) (h : ∀ j, j < 256 → w.cell? ⟨b, o + j, none⟩ = some (.int .u8 0)) : Calls Tryz.prog 36 #[.slice (some ⟨b, o, none⟩) 256 c] w fun e w' => e = .returned (.tuple #[.slice none 0 0, .int .i64 50]) ∧ w = w' := by
  have h0 := h 0 (by omega)
  have h5 := h 255 (by omega)
  rw [Nat.add_zero] at h0
  clear h
  go_enter Tryz.func36, Tryz.ntmps36
  go_wp2
  go_ret2
  exact ⟨rfl, rfl⟩
theorem isNot_ok (w : World) : Calls Tryz.prog 38 #[.int .u8 0] w fun e w' => e = .returned (.bool false) ∧ w = w' := by
  go_enter Tryz.func38, Tryz.ntmps38
  go_wp2
  go_ret
  exact ⟨rfl, rfl⟩
set_option maxHeartbeats 2000000 in
theorem indexFunc_ok (b o c : Nat) (w : World) (h : ∀ j, j < 256 → w.cell? ⟨b, o + j, none⟩ = some (.int .u8 0)) : Calls Tryz.prog 66 #[.slice (some ⟨b, o, none⟩) 256 c, .func (.func 38) #[] #[]] w fun e w' => e = .returned (.int .i64 (-1)) ∧ w = w' := by
  have H := Lib.hid h
  clear h
  have hen : ∀ args w, (callFunc 38 args).run Tryz.prog w = .ok (.enter 38 args) w := fun args w => run_enter Tryz.func38 (by kernel_rfl) rfl args w
  go_enter Tryz.func66, Tryz.ntmps66
  go_wp2
  go_loop [8] (fun i => ∃ k : Nat, k ≤ 256 ∧ i = .int .i64 k) (fun i => 256 - (intOf i).toNat)
  case atStart => exact ⟨0, by omega, rfl⟩
  case round =>
    obtain ⟨k, hk, rfl⟩ := hrel
    by_cases hlt : k < 256
    · have hc := H.out k hlt
      have hi : (k : Int) < 256 := by omega
      go_wp2_with (go_at_call 38; refine (isNot_ok _).mono ?_; rintro e w' ⟨rfl, rfl⟩)
      go_round
      case rel => exact ⟨k + 1, by omega, by go_num⟩
      case measure => simp [intOf]; omega
    · obtain rfl : k = 256 := by omega
      go_wp2
      go_ret
      exact ⟨rfl, rfl⟩
set_option maxHeartbeats 2000000 in
theorem contains_ok (b o c : Nat) (w : World) (h : ∀ j, j < 256 → w.cell? ⟨b, o + j, none⟩ = some (.int .u8 0)) : Calls Tryz.prog 37 #[.slice (some ⟨b, o, none⟩) 256 c, .func (.func 38) #[] #[]] w fun e w' => e = .returned (.bool false) ∧ w = w' := by
  have H := Lib.hid (indexFunc_ok b o c w h)
  clear h
  go_enter Tryz.func37, Tryz.ntmps37
  go_wp2_with fail
  refine H.out.mono ?_
  rintro e w' ⟨rfl, rfl⟩
  go_wp2
  go_ret
  exact ⟨rfl, rfl⟩

theorem core_drew {env : Nat → Value} {base : List (Nat × AObj)} {n : Nat} {ρ : Ren} {w : World} (h : CoreAt T0 env 4 base n ρ w) : CoreAt T0 env 4 base n ρ w.drew := ⟨h.ok.drew, h.fx, h.fresh⟩
/-- The look's block. -/
def LookAt (bx : Nat) (vd vl pg tn : Value) (g p f : Int) (w : World) : Prop := Blk w bx 45 #[vd, .int .i64 g, .int .i64 p, .int .i64 f, vl, pg, tn]
section
variable {g p f : Int} (hg0 : 64 ≤ g) (hg1 : g ≤ 1024) (hp0 : 1 ≤ p) (hp1 : p ≤ 64) {ρ : Ren}
include hg0 hg1 hp0 hp1
set_option maxHeartbeats 4000000 in
theorem torn_ok (bx : Nat) (vl pg tn : Value) (b0 o0 : Nat) (w : World) (hw : AuAt g p f auB2 174 ρ w) (hd : VR ρ (envOf (auSyms g p f [])) d1 (.pointer (some ⟨b0, o0, none⟩))) (hx : LookAt bx (.pointer (some ⟨b0, o0, none⟩)) vl pg tn g p f w) (hn : ¬ InCore auB2 ρ bx) :
    Calls Tryz.prog 15 #[.pointer (some ⟨bx, 0, none⟩)] w fun e w' => e = .returned (.int .i64 0) ∧ AuAt g p f auB2 174 ρ w' ∧ Upd (InCore auB2 ρ) w w' := by
  have HD := Lib.hid hd
  have HN := Lib.hid hn
  have hc := Blk.cell hx
  have hg2 : IntKind.i64.wrap (2 * p) = 2 * p := by rw [IntWalk.i64_in _ (by omega)]
  have HX := Lib.hid hx
  have HW := Lib.hid hw
  clear hd hn hx hw
  go_enter Tryz.func15, Tryz.ntmps15
  go_wp2
  go_loopw [3, 15] (fun t i wr => ∃ k : Nat, (k : Int) ≤ 2 * p ∧ i = .int .i64 k ∧ t = .int .i64 0 ∧ AuAt g p f auB2 174 ρ wr ∧ Upd (InCore auB2 ρ) w wr) (fun _ i _ => (2 * p).toNat - (intOf i).toNat)
  case atStart => exact ⟨0, by omega, rfl, rfl, HW.out, Upd.refl _ _⟩
  case round =>
    clear hc
    obtain ⟨k, hk, rfl, rfl, hW, hU⟩ := hrel
    have hc := (Blk.upd HX.out hU HN.out).cell
    by_cases hlt : (k : Int) < 2 * p
    · have HR := fun W hW => read_ok hg0 hg1 hp0 hp1 (2 + g + k) (by omega) (by omega) (w := W) (ρ := ρ) hW HD.out
      have HW1 := Lib.hid hW
      have HU1 := Lib.hid hU
      clear hW hU
      have hb0 := hc 0
      have hb1 := hc 1
      have HB : Hid (Blk wr bx 45 #[.pointer (some ⟨b0, o0, none⟩), .int .i64 g, .int .i64 p, .int .i64 f, vl, pg, tn]) := Lib.hid (Blk.upd HX.out HU1.out HN.out)
      have e1 : IntKind.i64.wrap (2 + g) = 2 + g := by rw [IntWalk.i64_in _ (by omega)]
      have e2 : IntKind.i64.wrap (2 + g + k) = 2 + g + k := by rw [IntWalk.i64_in _ (by omega)]
      have HRD := Lib.hid HR
      clear HR hc hg2
      go_upto_region 5 with (fail)
      go_region_held3 (fun w' => w'.cell? ⟨bx, 0, none⟩ = some (.pointer (some ⟨b0, o0, none⟩)) ∧ w'.cell? ⟨bx, 1, none⟩ = some (.int .i64 g)) (first | go_keep | exact ⟨hk0, hk1⟩)
        (first
          | (go_at_call 35
             refine (HRD.out _ (core_drew HW1.out)).mono ?_
             rintro e w2 ⟨b2, o2, c2, rfl, hc2, hz2, hw2, hu2⟩
             have hbb := (HB.out.drew.upd hu2 HN.out)
             have hk0 := hbb.cell 0
             have hk1 := hbb.cell 1
             have HZ2 := Lib.hid hz2
             have HW2 := Lib.hid hw2
             have HU2 := Lib.hid (HU1.out.drew.trans hu2 fun _ _ h => h)
             clear hz2 hw2 hu2 hbb))
      all_goals
        go_wp2_with fail
        refine (stampOpen_ok b2 o2 c2 w2 HZ2.out).mono ?_
        rintro e w3 ⟨rfl, rfl⟩
        go_wp2_with fail
        refine (contains_ok b2 o2 c2 w2 HZ2.out).mono ?_
        rintro e w3 ⟨rfl, rfl⟩
        go_wp2
        go_roundw
        case rel => exact ⟨k + 1, by omega, by go_num, rfl, HW2.out, HU2.out⟩
        case measure => simp [intOf]; omega
    · have e : ¬ (k : Int) < 2 * p := by omega
      have HW1 := Lib.hid hW
      have HU1 := Lib.hid hU
      clear hW hU hc
      go_wp2
      go_ret
      exact ⟨rfl, HW1.out, HU1.out⟩
end
end Go.Proofs.YtekflbnfagldcaaGreatDoor
