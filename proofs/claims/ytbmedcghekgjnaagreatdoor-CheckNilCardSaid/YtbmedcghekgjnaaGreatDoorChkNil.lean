/-
  CheckNil returns true for every past and every fuse.
-/
import Derived.Test.YtbmedcghekgjnaaGreatDoorChkRa
import Derived.Test.YtbmedcghekgjnaaGreatDoorChkRb
import Derived.Test.YtbmedcghekgjnaaGreatDoorAwake17
import Derived.Test.YtbmedcghekgjnaaGreatDoorSeatC
import Derived.Test.YtbmedcghekgjnaaGreatDoorRows
import Derived.ProofKit
import Derived.Deep.DeepCutAuto
namespace Go.Proofs.YtbmedcghekgjnaaGreatDoor
open Go Ev Go.RowKit

theorem x17_ok {l : List Value} (h : l.all symB = true) : ExtOK Tryz.prog T0 (envOf l) 4 X17 := known_true (fun h => sn17_X_ok h) awake17_run h ext0
theorem chk_runs (fuse : Int) (h0 : 0 ≤ fuse) (h1 : fuse ≤ 10) : chkRun fuse = true := by
  rcases (by omega : fuse = 0 ∨ fuse = 1 ∨ fuse = 2 ∨ fuse = 3 ∨ fuse = 4 ∨ fuse = 5 ∨ fuse = 6 ∨ fuse = 7 ∨ fuse = 8 ∨ fuse = 9 ∨ fuse = 10) with rfl | rfl | rfl | rfl | rfl | rfl | rfl | rfl | rfl | rfl | rfl
  · exact chk_run0
  · exact chk_run1
  · exact chk_run2
  · exact chk_run3
  · exact chk_run4
  · exact chk_run5
  · exact chk_run6
  · exact chk_run7
  · exact chk_run8
  · exact chk_run9
  · exact chk_run10

set_option maxRecDepth 100000
set_option maxHeartbeats 2000000 in
theorem checkNil_walk (A : Option Addr) (n c : Nat) (fuse : Int) (w : World) (hw : HalfAt w) : Calls Tryz.prog 6 #[.slice A n c, .int .i64 fuse] w fun e w' => e = .returned (.bool true) ∧ Below w.heap.size w w' := by
  have HW := Lib.hid hw
  clear hw
  refine calls_of_fin Tryz.func6 rfl ?_
  simp only [Tryz.ntmps6, List.size_toArray, List.length_cons, List.length_nil, Nat.reduceAdd, Nat.reduceSub, Array.replicate_succ,
     Array.replicate_zero, List.push_toArray, List.append_toArray, List.nil_append, List.cons_append]
  go_upto_if 25 with (fail)
  all_goals
    refine wp_cond_split rfl (fun h => ?_) (fun h => ?_) <;> (try simp only [decide_eq_true_eq, decide_eq_false_iff_not, Bool.or_eq_true, Bool.or_eq_false_iff] at h) <;> go_prune
  case refine_2 =>
    go_step
    go_step
    go_step
    have e1 : decide (300 < (n : Int)) = false := by simp; omega
    have e2 : decide (fuse < 0) = false := by simp; omega
    have e3 : decide (10 < fuse) = false := by simp; omega
    simp only [e1, e2, e3, Bool.or_false]
    obtain ⟨ty, fz, hh⟩ := HW.out
    have hl : [Value.slice A n c, .int .i64 n].all symB = true := rfl
    refine wp_rest (cx0 hl) (calls0 hl (x17_ok hl) 1000 100) (draw_ok mix0 (cx0 hl) (calls0 hl (x17_ok hl) 1000 100)) (s := ⟨TT.ofList 0 (chkFrame fuse) .leaf, [], H0⟩) (ρ := ren0 ty fz) (ok := okTrue) (fuel := 1000) (by kernel_rfl) (chk_runs fuse (by omega) (by omega)) ?_ (okTrue_post hh)
    refine ⟨⟨?_, ren0_fixed ty fz, match0 hh⟩, rfl, ren0_fresh ty fz, .nil, Nat.le_refl _⟩
    refine frame_ok ?_ (by kernel_rfl)
    unfold chkFrame
    repeat (refine VRs.cons (by first | exact VR.int _ _ | exact VR.bool _ | exact VR.tuple VRs.nil | exact VR.sym 0 | exact VR.sym 1) ?_)
    exact VRs.nil
  all_goals
    go_wp2_with fail
    refine (awake17_ok HW.out).mono ?_
    rintro e w' ⟨rfl, hb⟩
    have HB := Lib.hid hb
    clear hb
    go_wp2
    refine fin_of_plain (.inr rfl) rfl (results_tmp rfl _ _ _) ⟨rfl, HB.out⟩
end Go.Proofs.YtbmedcghekgjnaaGreatDoor
