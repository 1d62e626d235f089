/-
  check.Keep: the least of what its iterator gives.
-/
import Derived.Test.YtlngdekaipipgaaGreatDoorKeepC
namespace Go.Proofs.YtlngdekaipipgaaGreatDoor
open Go Go.RowKit Go.Shelf

attribute [local go_sem] Oper.semAt_some

set_option maxRecDepth 100000 in
set_option maxHeartbeats 2000000 in
theorem Keep_in (F : Fence) (n : Nat) (h3 : F.fn 16) (h5 : F.fn 66) (h7 : F.fn 143) (hro : F.round = none) (hn : 3 ≤ n) (b : Int) (v1 v2 : Value) (L : List RowV) (D : List (Int × Int)) (hm1 : L.length ≤ 100) (hm2 : D.length ≤ 100) (w : World) (g1 : RowsE w v1 L) (g2 : DirtyE w v2 D) :
    CallsIn F n Tryz.prog 16 #[.int .i64 b, v1, v2] w fun e W' => e = .returned (.int .i64 (least b (firstsL L D))) ∧ Below w.heap.size w W' := by
  have h1 : 1 ≤ n := by omega
  obtain ⟨A1, c1, rfl, hc1⟩ := g1.val
  obtain ⟨A2, c2, rfl, hc2⟩ := g2.val
  have G1 := Lib.hid g1
  have G2 := Lib.hid g2
  have HM1 := Lib.hid hm1
  have HM2 := Lib.hid hm2
  clear g1 g2 hm1 hm2
  refine callsIn_of_wp_marks Tryz.func16 rfl h3 ?_ hro
  simp only [Tryz.ntmps16, List.size_toArray, List.length_cons, List.length_nil, Nat.reduceAdd, Nat.reduceSub, Array.replicate_succ, Array.replicate_zero, List.push_toArray, List.append_toArray, List.nil_append, List.cons_append]
  gi_wp2_with (gi_at_call 66; refine (firsts_in F (n - 1) h5 hro _ _ _ _ _ _ _).mono ?_; rintro e w' ⟨rfl, rfl⟩)
  have bS := Boxed.new w 3 (.int .i64 b)
  have bN := Boxed.new (w.alloc (.cells #[.int .i64 b] 3)) 45 (.slice A1 L.length c1)
  have bM := Boxed.new ((w.alloc (.cells #[.int .i64 b] 3)).alloc (.cells #[.slice A1 L.length c1] 45)) 46 (.slice A2 D.length c2)
  simp only [World.size_alloc] at bN bM
  have hB0 : Below w.heap.size w (((w.alloc (.cells #[.int .i64 b] 3)).alloc (.cells #[.slice A1 L.length c1] 45)).alloc (.cells #[.slice A2 D.length c2] 46)) := (((Below.refl _ w).alloc (Nat.le_refl _) _).alloc (by simp) _).alloc (by simp; omega) _
  refine wpIn_rangeFunc_ownG hro h1 (gf := 143) (lb := #[.pointer (some ⟨w.heap.size + 1, 0, none⟩), .pointer (some ⟨w.heap.size + 1 + 1, 0, none⟩)]) rfl h7 (enters_of Tryz.func143 (by kernel_rfl) rfl)
    (firsts_stops F (n - 1) h7 hro (by omega) w.heap.size (w.heap.size + 1) (w.heap.size + 1 + 1) _ _ L D HM1.out HM2.out w _ (by simp) (by simp) rfl hB0 (bN.alloc _).cell bM.cell G1.out G2.out) Kp2.trans (fun W l o o' hl ho hc _ => ⟨belowK_b (n₀ := w.heap.size) (by simp; omega) W l o o' hl ho hc ‹_›, fun _ => World.putObj_heap_other (by simp at hl; omega)⟩) (Below.refl _ _) (fun _ => rfl)
    (fun pre W => (W.cell? ⟨w.heap.size, 0, none⟩ = some (.int .i64 (least b pre)) ∧ W.frozen? ⟨w.heap.size, 0, none⟩ = false) ∧ Below w.heap.size w W)
    (fun _ _ _ => False)
    (OwnFrom.and (Own.from (fun s A B row hs hg hr => ⟨cell_kept hs.1 hg hr, (frozen_kept hs.1 hg hr).trans hs.2⟩) _) (ownFrom_below (Nat.le_refl _) (by simp; omega)))
    (fun _ _ _ _ _ hs _ _ => hs)
    ⟨⟨((bS.alloc _).alloc _).cell, ((bS.alloc _).alloc _).frozen⟩, hB0⟩
    (fun x => { tmps := #[.int .i64 b, .slice A1 L.length c1, .slice A2 D.length c2, .pointer (some ⟨w.heap.size, 0, none⟩), undef, undef, .int .i64 0, .int .i64 x, .slice A1 L.length c1, .slice A2 D.length c2, .func (.func 143) #[] #[.pointer (some ⟨w.heap.size + 1, 0, none⟩), .pointer (some ⟨w.heap.size + 1 + 1, 0, none⟩)], .int .i64 x, undef, undef, undef, undef], defers := [] }) ?assign ?body ?done ?stop
  case assign =>
    intro l x W K hK
    gi_wp2
    exact hK
  case body =>
    rintro l pre x W ⟨⟨hc, hf⟩, hB⟩ _
    by_cases hx : x < least b pre
    all_goals
      gi_wp2
      refine ⟨(KeepsOthers.setCell _ _ _).from _, Kp2.set_ (p := ⟨w.heap.size, 0, none⟩) (Nat.le_refl _) (by show w.heap.size + 1 + 1 ≠ w.heap.size; omega) _, ⟨?_, by rw [World.frozen?_setCell]; exact hf⟩, hB.setCell (p := ⟨w.heap.size, 0, none⟩) (Nat.le_refl _) _⟩
      rw [least_snoc]
      first | rw [if_pos hx] | rw [if_neg (by omega)]
      exact World.cell?_setCell_same' _ _ _ (by rw [hc]; rfl)
  case done =>
    rintro Dl ys W hD rfl ⟨⟨hc, _⟩, hB⟩ hK
    gi_wp2
    refine ⟨by simp, .inl ⟨_, _, rfl, run_takeDeferred hK, ?_⟩⟩
    exact ⟨_, results_tmp rfl _ _ _, rfl, hB.trans (belowK_b (w := w) (Nat.le_refl _) W Dl _ _ (by simp at hD; omega) hK rfl rfl)⟩
  case stop =>
    rintro Dl c pre W _ _ h _
    exact h.elim
end Go.Proofs.YtlngdekaipipgaaGreatDoor
