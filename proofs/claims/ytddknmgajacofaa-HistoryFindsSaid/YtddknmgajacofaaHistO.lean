/-
  History: the program's Replay is the plain fold.
-/
import Derived.Test.YtddknmgajacofaaHistL
import Derived.Test.YtddknmgajacofaaRepO
import Derived.Test.YtddknmgajacofaaHistQ
import Derived.Test.YtddknmgajacofaaHistS
namespace Go.Proofs.Ytddknmgajacofaa
open Go Go.RowKit Go.Shelf
attribute [local go_sem] Oper.semAt_some

set_option maxHeartbeats 4000000 in
set_option maxRecDepth 100000 in
theorem replay_ok {w : World} {v u : Value} {l : List EvD} {o : List Int} (h : EvsE w v l) (hl : l.length ≤ 60) (ho : NumsE w u o) (hol : o.length ≤ 60) (hky : ∀ e ∈ l, e.ky.length ≤ maxLen) : Calls Try.prog 18 #[v, u] w (RepOut w (stN l o o.length)) := by
  have hmm := @run_makeMap Try.prog
  obtain ⟨A, c, rfl, hc⟩ := h.val
  obtain ⟨B, d, rfl, hd⟩ := ho.val
  have H := Lib.hid h
  have HO := Lib.hid ho
  clear h ho
  refine (callsIn_wide (n := 6)).1 (callsIn_of_wp_marks Try.func18 rfl trivial ?_ rfl)
  simp only [Try.ntmps18, List.size_toArray, List.length_cons, List.length_nil, Nat.reduceAdd, Nat.reduceSub, Array.replicate_succ, Array.replicate_zero, List.push_toArray, List.append_toArray, List.nil_append, List.cons_append]
  refine wpIn_wide.2 ?_
  go_wp2_with fail
  have HG0 := Lib.hid (fun B : Nat => ((Groups.new B w).alloc (.cells #[.map (some w.heap.size)] 75)))
  have HX0 := Lib.hid (Blk.new (w.alloc (.map #[] 0)) 75 #[.map (some w.heap.size)])
  have HU0 := Lib.hid (((Upd.refl Nowhere w).alloc (.map #[] 0)).alloc (.cells #[.map (some w.heap.size)] 75))
  have H1 := Lib.hid ((H.out.alloc (.map #[] 0)).alloc (.cells #[.map (some w.heap.size)] 75))
  simp only [World.size_alloc] at HX0
  refine (works_ok H1.out (by omega)).mono ?_
  rintro r w2 ⟨b1, b3, bm, rfl, hB1, hB3, hM, s1, s3, sm, hu⟩
  have HG := Lib.hid ((HG0.out w2.heap.size).upd hu id fun _ _ _ _ _ _ => id)
  have HX := Lib.hid (HX0.out.upd hu id)
  have HU := Lib.hid (HU0.out.trans hu fun _ _ => id)
  have HB1 := Lib.hid hB1
  have HB3 := Lib.hid hB3
  have HM := Lib.hid hM
  have HS := Lib.hid (show w.heap.size + 2 ≤ b1 ∧ w.heap.size + 2 ≤ b3 ∧ w.heap.size + 2 ≤ bm ∧ w.heap.size + 2 ≤ w2.heap.size by simp at s1 s3 sm; have := hu.size; simp at this; omega)
  clear hB1 hB3 hM s1 s3 sm hu HG0 HX0 HU0 H1
  go_wp2_with fail
  refine (wpIn_wide (n := 6)).1 ?_
  refine wpIn_rangeFunc_ownH (w0 := w2) (Kp := Upd (fun k => k = w.heap.size ∨ w2.heap.size ≤ k)) rfl (by decide) (gf := 45) (lb := #[.pointer (some ⟨b1, 0, none⟩), .pointer (some ⟨b3, 0, none⟩)]) rfl trivial (enters_of Try.func45 (by kernel_rfl) rfl)
    (wks_stops (v := .slice A l.length c) (l := l) (bm := bm) (H.out.upd HU.out fun _ _ => id) (by omega) ?hF HB1.out HB3.out HM.out ?n3 ?nm 5 (by decide))
    (fun h k => h.trans k fun _ _ => id) ?hKb (Below.refl _ _) (fun _ => rfl)
    (fun pre W => Groups w2.heap.size W w.heap.size (fun t => pre.filter fun e => decide (e.tx = t)) ∧ Upd (fun k => k = w.heap.size ∨ w2.heap.size ≤ k) w2 W)
    (fun _ _ _ => False) ?hI (fun _ _ _ _ _ hs _ _ => hs) ?h0
    (fun x a' W => ∃ Bx, w2.heap.size ≤ Bx ∧ Blk W Bx 41 x.arr ∧ ApartE W w.heap.size Bx ∧ a' = { tmps := #[.slice A l.length c, .slice B o.length d, undef, undef, .slice none 0 0, .bool false, .pointer (some ⟨w.heap.size + 1, 0, none⟩), .pointer (some ⟨Bx, 0, none⟩), undef, undef, undef, undef, undef, undef, undef, undef, .map (some w.heap.size), .slice A l.length c, .func (.func 45) #[] #[.pointer (some ⟨b1, 0, none⟩), .pointer (some ⟨b3, 0, none⟩)], .agg x.arr, undef, undef, undef, undef, undef, undef, undef, undef, undef, undef, undef, undef, undef, undef, undef, undef, undef, undef, undef, undef, undef, undef, undef, undef, undef, undef, undef, undef, undef, undef, undef, undef, undef, undef, undef, undef, undef, undef, undef, undef, undef, undef, undef, undef, undef, undef, undef, undef, undef, undef, undef, undef, undef, undef, undef, undef, undef, undef, undef, undef, undef, undef, undef, undef], defers := [] })
    ?hAx ?assign ?body ?done ?stop
  case hF =>
    intro hne k hk hF
    obtain ⟨b, off, c', he, hb, _⟩ := Reads.addr H.out (List.length_pos_iff.2 hne)
    cases he
    cases hk
    have := HS.out
    rcases hF with h | h
    · exact absurd hb (by simp at h; omega)
    · exact absurd hb (by simp at h; omega)
  case n3 =>
    have := HS.out
    have := HB3.out.lt
    omega
  case nm =>
    have := HS.out
    have := HM.out.lt
    omega
  case hKb =>
    intro W ll x x' hl _ _ _
    exact (Upd.refl _ W).grown (grownBy_putObj' W ll x') fun k hk _ => by cases hk; exact .inr hl
  case hI =>
    intro pre A1 B1 row hs hg hr
    have hlt := hs.1.lt
    refine ⟨hs.1.upd ((Upd.refl (fun k => row = some k) A1).grown hg fun k hk _ => hk) (fun e => ?_) (fun k cs t fz _ hk e => ?_), hs.2.grown hg fun k hk _ => .inr (hr k hk).1⟩
    · have := (hr _ e).1
      have := HS.out
      omega
    · obtain ⟨_, x, hx, hxc⟩ := hr _ e
      rw [hk] at hx
      cases hx
      cases hxc
  case h0 => exact ⟨HG.out.congr fun _ => rfl, Upd.refl _ _⟩
  case hAx =>
    intro x a' _ A1 B1 row hs hg hr
    obtain ⟨Bx, h1, h2, h3, h4⟩ := hs
    have hlt : w.heap.size < A1.heap.size := by have := h2.lt; have := HS.out; omega
    refine ⟨Bx, h1, (hg.block Bx h2.lt fun e => ?_).trans h2, h3.of_block (hg.block _ hlt fun e => ?_), h4⟩
    · obtain ⟨_, y, hy, hyc⟩ := hr Bx e.symm
      rw [show A1.heap[Bx]? = _ from h2] at hy
      cases hy
      cases hyc
    · have := (hr _ e.symm).1
      have := HS.out
      omega
  case assign =>
    intro ll pre x W K hi hK
    gi_wp2
    exact hK _ _ ((KeepsOthers.alloc _ _).from _) ((Upd.refl _ W).alloc _) ⟨hi.1.alloc _, hi.2.alloc _⟩ ⟨W.heap.size, hi.2.size, Blk.new _ _ _, hi.1.apart _, rfl⟩
  case body =>
    rintro ll pre ⟨kd, tx, key, has, data⟩ a' W hll ⟨rr, hrr⟩ ⟨hg, hu⟩ ⟨Bx, hBx, hB, hap, rfl⟩ hlt
    have hsz := HS.out
    have cX := (HX.out.upd hu (by have := HX.out.lt; omega)).cell
    have cB := hB.cell
    obtain ⟨vv, hlk, hov, _⟩ := hg.drew.look tx
    obtain ⟨v', W1, W2, hr1, hr2, hG2, hU2, hK2, hS2, hE2⟩ := hg.drew.push (by have := hu.size; simp; omega) (by omega) tx ⟨kd, tx, key, has, data⟩ (Nat.le_trans (List.length_filter_le _ _) (by omega)) hlk
    have hva := ApartE.look (W := W.drew) (hap.of_block rfl) hg.drew hlk
    have hXW := HX.out.upd hu (by have := HX.out.lt; omega)
    have hXne : vv.ownBlock ≠ some (w.heap.size + 1) := OwnR.blk_ne (TE := 41) hov hXW.drew (by decide)
    have HLA := Lib.hid (hg.drew.look_alloc hlk (.cells #[.int .i64 kd, .int .i64 tx, .string key, .bool has, .string data] 41))
    have HLK := Lib.hid hlk
    have KA : Hid ((fun w' : World => w'.cell? ⟨w.heap.size + 1, 0, none⟩ = some (.map (some w.heap.size)) ∧ w'.cell? ⟨Bx, 0, none⟩ = some (.int .i64 kd) ∧ w'.cell? ⟨Bx, 1, none⟩ = some (.int .i64 tx) ∧ w'.cell? ⟨Bx, 2, none⟩ = some (.string key) ∧ w'.cell? ⟨Bx, 3, none⟩ = some (.bool has) ∧ w'.cell? ⟨Bx, 4, none⟩ = some (.string data)) (W.drew.alloc (.cells #[.int .i64 kd, .int .i64 tx, .string key, .bool has, .string data] 41))) := Lib.hid ⟨(hXW.drew.alloc _).cell 0, (hB.drew.alloc _).cell 0, (hB.drew.alloc _).cell 1, (hB.drew.alloc _).cell 2, (hB.drew.alloc _).cell 3, (hB.drew.alloc _).cell 4⟩
    have x1 := hE2 (w.heap.size + 1) hXW.lt (by omega) hXne
    have x2 := hE2 Bx hB.lt (by omega) hva
    have K1 : Hid ((fun w' : World => w'.cell? ⟨w.heap.size + 1, 0, none⟩ = some (.map (some w.heap.size)) ∧ w'.cell? ⟨Bx, 0, none⟩ = some (.int .i64 kd) ∧ w'.cell? ⟨Bx, 1, none⟩ = some (.int .i64 tx) ∧ w'.cell? ⟨Bx, 2, none⟩ = some (.string key) ∧ w'.cell? ⟨Bx, 3, none⟩ = some (.bool has) ∧ w'.cell? ⟨Bx, 4, none⟩ = some (.string data)) W1) := Lib.hid ⟨Blk.cell (x1.1.trans hXW) 0, Blk.cell (x2.1.trans hB) 0, Blk.cell (x2.1.trans hB) 1, Blk.cell (x2.1.trans hB) 2, Blk.cell (x2.1.trans hB) 3, Blk.cell (x2.1.trans hB) 4⟩
    have K2 : Hid ((fun w' : World => w'.cell? ⟨w.heap.size + 1, 0, none⟩ = some (.map (some w.heap.size)) ∧ w'.cell? ⟨Bx, 0, none⟩ = some (.int .i64 kd) ∧ w'.cell? ⟨Bx, 1, none⟩ = some (.int .i64 tx) ∧ w'.cell? ⟨Bx, 2, none⟩ = some (.string key) ∧ w'.cell? ⟨Bx, 3, none⟩ = some (.bool has) ∧ w'.cell? ⟨Bx, 4, none⟩ = some (.string data)) W2) := Lib.hid ⟨Blk.cell (x1.2.trans hXW) 0, Blk.cell (x2.2.trans hB) 0, Blk.cell (x2.2.trans hB) 1, Blk.cell (x2.2.trans hB) 2, Blk.cell (x2.2.trans hB) 3, Blk.cell (x2.2.trans hB) 4⟩
    clear x1 x2 hE2 hXW hva hXne hap hlk
    have HR1 := Lib.hid hr1
    have HR2 := Lib.hid hr2
    have HG2 := Lib.hid hG2
    have HU2 := Lib.hid hU2
    have HK2 := Lib.hid hK2
    have HUW := Lib.hid hu
    have HS2 := Lib.hid hS2
    clear hS2 hr1 hr2 hG2 hU2 hK2 hov hg hu
    gi_wp2
    have K0 : (fun w' => w'.cell? ⟨w.heap.size + 1, 0, none⟩ = some (.map (some w.heap.size)) ∧ w'.cell? ⟨Bx, 0, none⟩ = some (.int .i64 kd) ∧ w'.cell? ⟨Bx, 1, none⟩ = some (.int .i64 tx) ∧ w'.cell? ⟨Bx, 2, none⟩ = some (.string key) ∧ w'.cell? ⟨Bx, 3, none⟩ = some (.bool has) ∧ w'.cell? ⟨Bx, 4, none⟩ = some (.string data)) W := ⟨cX 0, cB 0, cB 1, cB 2, cB 3, cB 4⟩
    refine wpIn_region_held_plain (S := (fun w' => w'.cell? ⟨w.heap.size + 1, 0, none⟩ = some (.map (some w.heap.size)) ∧ w'.cell? ⟨Bx, 0, none⟩ = some (.int .i64 kd) ∧ w'.cell? ⟨Bx, 1, none⟩ = some (.int .i64 tx) ∧ w'.cell? ⟨Bx, 2, none⟩ = some (.string key) ∧ w'.cell? ⟨Bx, 3, none⟩ = some (.bool has) ∧ w'.cell? ⟨Bx, 4, none⟩ = some (.string data))) (fun ⟨_, _, h⟩ => h) (by kernel_rfl) (by kernel_rfl) K0 (fun hHeld => ?_)
    refine wpAnyH_take (i := 0) (v := ?vv0) rfl (by kernel_rfl) (by kernel_rfl) (by kernel_rfl) (fun _ _ _ h => h) (Or.inl ⟨by rfl, ?hy0⟩) hHeld ?rest0
    case hy0 =>
      intro W' hSw
      try dsimp only at hSw
      obtain ⟨s0, s1, s2, s3, s4, s5⟩ := hSw
      go_simp
      try with_reducible rfl
    case' rest0 => simp only [Act.put, List.setIfInBounds_toArray, List.set_cons_zero, List.set_cons_succ]
    refine wpAnyH_take (i := 1) (v := ?vv1) rfl (by kernel_rfl) (by kernel_rfl) (by kernel_rfl) (fun _ _ _ h => h) (Or.inl ⟨by rfl, ?hy1⟩) hHeld ?rest1
    case hy1 =>
      intro W' hSw
      try dsimp only at hSw
      obtain ⟨s0, s1, s2, s3, s4, s5⟩ := hSw
      go_simp
      try with_reducible rfl
    case' rest1 => simp only [Act.put, List.setIfInBounds_toArray, List.set_cons_zero, List.set_cons_succ]
    refine wpAnyH_take (i := 2) (v := ?vv2) rfl (by kernel_rfl) (by kernel_rfl) (by kernel_rfl) (fun _ _ _ h => h) (Or.inl ⟨by rfl, ?hy2⟩) hHeld ?rest2
    case hy2 =>
      intro W' hSw
      try dsimp only at hSw
      obtain ⟨s0, s1, s2, s3, s4, s5⟩ := hSw
      go_simp
      try with_reducible rfl
    case' rest2 => simp only [Act.put, List.setIfInBounds_toArray, List.set_cons_zero, List.set_cons_succ]
    refine wpAnyH_take (i := 3) (v := ?vv3) rfl (by kernel_rfl) (by kernel_rfl) (by kernel_rfl) (fun _ _ _ h => h) (Or.inl ⟨by rfl, ?hy3⟩) hHeld ?rest3
    case hy3 =>
      intro W' hSw
      try dsimp only at hSw
      obtain ⟨s0, s1, s2, s3, s4, s5⟩ := hSw
      go_simp
      try with_reducible rfl
    case' rest3 => simp only [Act.put, List.setIfInBounds_toArray, List.set_cons_zero, List.set_cons_succ]
    refine wpAnyH_take (i := 4) (v := ?vv4) rfl (by kernel_rfl) (by kernel_rfl) (by kernel_rfl) (fun _ _ _ h => h) (Or.inl ⟨by rfl, ?hy4⟩) hHeld ?rest4
    case hy4 =>
      intro W' hSw
      try dsimp only at hSw
      obtain ⟨s0, s1, s2, s3, s4, s5⟩ := hSw
      go_simp
      try with_reducible rfl
    case' rest4 => simp only [Act.put, List.setIfInBounds_toArray, List.set_cons_zero, List.set_cons_succ]
    refine wpAnyH_take (i := 5) (v := ?vv5) rfl (by kernel_rfl) (by kernel_rfl) (by kernel_rfl) (fun _ _ _ h => h) (Or.inl ⟨by rfl, ?hy5⟩) hHeld ?rest5
    case hy5 =>
      intro W' hSw
      try dsimp only at hSw
      obtain ⟨s0, s1, s2, s3, s4, s5⟩ := hSw
      go_simp
      try with_reducible rfl
    case' rest5 => simp only [Act.put, List.setIfInBounds_toArray, List.set_cons_zero, List.set_cons_succ]
    refine wpAnyH_take (i := 7) (v := ?vv7) rfl (by kernel_rfl) (by kernel_rfl) (by kernel_rfl) (fun _ _ _ h => h) (Or.inl ⟨by rfl, ?hy7⟩) hHeld ?rest7
    case hy7 =>
      intro W' hSw
      try dsimp only at hSw
      obtain ⟨s0, s1, s2, s3, s4, s5⟩ := hSw
      go_simp
      try with_reducible rfl
    case' rest7 => simp only [Act.put, List.setIfInBounds_toArray, List.set_cons_zero, List.set_cons_succ]
    refine wpAnyH_ready (rs := [6, 8]) (by kernel_rfl) (by simp) ?_
    refine AllReadyH.cons rfl (fun K hK => ?_) (AllReadyH.cons rfl (fun K hK => ?_) AllReadyH.nil)
    · refine step_lookup_run rfl _ _ _ _ rfl rfl rfl HLK.out ?_
      refine hK.out _ _ hHeld (fun hHeld => ?_)
      clear hK K
      try simp only [Act.put, List.setIfInBounds_toArray, List.set_cons_zero, List.set_cons_succ]
      refine wpAnyH_ready (rs := [8]) (by kernel_rfl) (by simp) ?_
      refine AllReadyH.cons rfl (fun K hK => ?_) AllReadyH.nil
      go_simp
      refine hK.out _ _ KA.out (fun hHeld => ?_)
      clear hK K
      try simp only [Act.put, List.setIfInBounds_toArray, List.set_cons_zero, List.set_cons_succ]
      refine wpAnyH_ready (rs := [9]) (by kernel_rfl) (by simp) ?_
      refine AllReadyH.cons rfl (fun K hK => ?_) AllReadyH.nil
      refine step_append_run rfl _ _ _ rfl rfl rfl HR1.out ?_
      refine hK.out _ _ K1.out (fun hHeld => ?_)
      clear hK K
      try simp only [Act.put, List.setIfInBounds_toArray, List.set_cons_zero, List.set_cons_succ]
      refine wpAnyH_ready (rs := [10]) (by kernel_rfl) (by simp) ?_
      refine AllReadyH.cons rfl (fun K hK => ?_) AllReadyH.nil
      refine step_update_run rfl _ _ _ _ rfl rfl rfl rfl HR2.out ?_
      refine hK.out _ _ K2.out (fun hHeld => ?_)
      clear hK K
      try simp only [Act.put, List.setIfInBounds_toArray, List.set_cons_zero, List.set_cons_succ]
      refine wpAnyH_done (by kernel_rfl) ?_ _
      refine ⟨⟨HS2.out, fun k x hk h0 hx => HK2.out k x (by omega) h0 hx⟩, ⟨HU2.out.os, HU2.out.tape, HU2.out.output, HU2.out.size, HU2.out.block⟩, HG2.out.congr fun t => ?_, HUW.out.trans (b := W) ⟨HU2.out.os, HU2.out.tape, HU2.out.output, HU2.out.size, HU2.out.block⟩ fun _ _ => id⟩
      rw [List.filter_append]
      by_cases ht : t = tx
      · subst ht; simp
      · have : ¬ tx = t := fun e => ht e.symm
        simp [ht, this]
    · go_simp
      refine hK.out _ _ KA.out (fun hHeld => ?_)
      clear hK K
      try simp only [Act.put, List.setIfInBounds_toArray, List.set_cons_zero, List.set_cons_succ]
      refine wpAnyH_ready (rs := [6]) (by kernel_rfl) (by simp) ?_
      refine AllReadyH.cons rfl (fun K hK => ?_) AllReadyH.nil
      refine step_lookup_run rfl _ _ _ _ rfl rfl rfl HLA.out ?_
      refine hK.out _ _ KA.out (fun hHeld => ?_)
      clear hK K
      try simp only [Act.put, List.setIfInBounds_toArray, List.set_cons_zero, List.set_cons_succ]
      refine wpAnyH_ready (rs := [9]) (by kernel_rfl) (by simp) ?_
      refine AllReadyH.cons rfl (fun K hK => ?_) AllReadyH.nil
      refine step_append_run rfl _ _ _ rfl rfl rfl HR1.out ?_
      refine hK.out _ _ K1.out (fun hHeld => ?_)
      clear hK K
      try simp only [Act.put, List.setIfInBounds_toArray, List.set_cons_zero, List.set_cons_succ]
      refine wpAnyH_ready (rs := [10]) (by kernel_rfl) (by simp) ?_
      refine AllReadyH.cons rfl (fun K hK => ?_) AllReadyH.nil
      refine step_update_run rfl _ _ _ _ rfl rfl rfl rfl HR2.out ?_
      refine hK.out _ _ K2.out (fun hHeld => ?_)
      clear hK K
      try simp only [Act.put, List.setIfInBounds_toArray, List.set_cons_zero, List.set_cons_succ]
      refine wpAnyH_done (by kernel_rfl) ?_ _
      refine ⟨⟨HS2.out, fun k x hk h0 hx => HK2.out k x (by omega) h0 hx⟩, ⟨HU2.out.os, HU2.out.tape, HU2.out.output, HU2.out.size, HU2.out.block⟩, HG2.out.congr fun t => ?_, HUW.out.trans (b := W) ⟨HU2.out.os, HU2.out.tape, HU2.out.output, HU2.out.size, HU2.out.block⟩ fun _ _ => id⟩
      rw [List.filter_append]
      by_cases ht : t = tx
      · subst ht; simp
      · have : ¬ tx = t := fun e => ht e.symm
        simp [ht, this]
  case done =>
    rintro D xs W hD rfl ⟨hg, hu⟩ hK
    have HGW := Lib.hid (hg.congr fun t => (txW_filter l t l.length).symm)
    have HXW := Lib.hid (HX.out.upd hu (by have := HX.out.lt; omega))
    have HUW := Lib.hid (HU.out.trans (F := Nowhere) hu fun k hk h => by have := HS.out; omega)
    have HDW := Lib.hid hK
    have HSZ := Lib.hid (show w.heap.size + 2 ≤ w2.heap.size ∧ w2.heap.size ≤ D ∧ D < W.heap.size from ⟨HS.out.2.2.2, hD, lt_of_heap hK⟩)
    clear hg hu hK hD HG HX HU HB1 HB3 HM HS
    gi_wp2
    go_wp2_with fail
    have HG1 := Lib.hid (HGW.out.alloc (.map #[] 0))
    have HM1 := Lib.hid ((MapIs.new W encS).congr (g := valF []) fun _ => rfl)
    have HX1 := Lib.hid (HXW.out.alloc (.map #[] 0))
    have HU1 := Lib.hid (HUW.out.alloc (.map #[] 0))
    have HD1 : Hid ((W.alloc (.map #[] 0)).heap[D]? = some (.deferred (some []))) := Lib.hid ((Below.heap_alloc W _ D HSZ.out.2.2).trans HDW.out)
    have HV : Hid (W.heap.size < (W.alloc (.map #[] 0)).heap.size) := Lib.hid (by simp)
    have HUW2 : Hid (w.heap.size + 2 ≤ W.heap.size) := Lib.hid (by have := HSZ.out; omega)
    generalize hvm : W.heap.size = vm at *
    generalize W.alloc (.map #[] 0) = W1 at *
    clear HGW HXW HUW HDW
    go_loopw [33] (fun s wr => ∃ (k : Nat) (vals : List (Ky × Vl)), k ≤ o.length ∧ s = .int .i64 k ∧ stN l o k = some vals ∧ Groups w2.heap.size wr w.heap.size (leftG l o k) ∧ MapIs encS wr vm (valF vals) ∧ Upd (fun b => b = w.heap.size ∨ b = vm) W1 wr) (fun s _ => o.length - (intOf s).toNat)
    case atStart => exact ⟨0, [], by omega, rfl, rfl, HG1.out.congr fun t => (leftG_zero l o t).symm, HM1.out, Upd.refl _ _⟩
    case round =>
      obtain ⟨k, vals, hk, rfl, hst, hg, hm, hu⟩ := hrel
      have HUQ := Lib.hid hu
      have HGQ := Lib.hid hg
      have HMQ := Lib.hid hm
      have HST := Lib.hid hst
      have HUN : Hid (Upd Nowhere w wr) := Lib.hid (HU1.out.trans hu fun k hk h => by have := HSZ.out; omega)
      clear hu hg hm hst
      by_cases hlt : k < o.length
      · obtain ⟨t, ht⟩ : ∃ t, o[k]? = some t := ⟨_, List.getElem?_eq_getElem hlt⟩
        obtain ⟨b, off, d', hE, hb, q0⟩ := num_at (HO.out.upd HUN.out fun _ _ => id) ht
        cases hE
        have hi : (k : Int) < (o.length : Nat) := by omega
        have cX := (HX1.out.upd HUQ.out (by have := HSZ.out; omega)).cell
        obtain ⟨vv, hlk, hov, hnil⟩ := HGQ.out.look t
        obtain ⟨A1, c1, rfl, hc1⟩ := hov.els.val
        have hlg := leftG_len l o k t
        have HT := Lib.hid ht
        have HOV := Lib.hid hov
        clear ht hov hnil
        go_wp2_with fail
        generalize wr = wq at *
        go_loopw [41] (fun s wz => ∃ (j : Nat) (v1 : List (Ky × Vl)), j ≤ (leftG l o k t).length ∧ s = .int .i64 j ∧ runL ((leftG l o k t).take j) vals = some v1 ∧ MapIs encS wz vm (valF v1) ∧ Upd (fun b => b = vm) wq wz) (fun s _ => (leftG l o k t).length - (intOf s).toNat)
        case atStart => exact ⟨0, vals, by omega, rfl, rfl, HMQ.out, Upd.refl _ _⟩
        case round =>
          obtain ⟨j, v1, hj, rfl, hrl, hm, hu⟩ := hrel
          have HUZ := Lib.hid hu
          have HMZ := Lib.hid hm
          have HRL := Lib.hid hrl
          clear hu hm hrl
          by_cases hjl : j < (leftG l o k t).length
          · obtain ⟨⟨kd, tx, key, has, data⟩, he⟩ : ∃ e, (leftG l o k t)[j]? = some e := ⟨_, List.getElem?_eq_getElem hjl⟩
            have hes : EvsE wr (.slice A1 (leftG l o k t).length c1) (leftG l o k t) := HOV.out.els.upd HUZ.out fun kk hkk e => by
              obtain ⟨cs, hcs⟩ := HOV.out.is_cells hkk
              exact map_ne_cells HMQ.out hcs e.symm
            obtain ⟨b9, o9, c9, hE9, hb9, p0, p1, p2, p3, p4⟩ := event_at hes he
            cases hE9
            have hji : (j : Int) < ((leftG l o k t).length : Nat) := by omega
            have HE := Lib.hid he
            have HKE : Hid ((EvD.mk kd tx key has data).ky.length ≤ maxLen) := Lib.hid (hky _ (by
              have h1 := List.mem_of_getElem? HE.out
              unfold leftG at h1
              split at h1
              · cases h1
              · exact txW_mem h1))
            obtain ⟨kl, rfl⟩ : ∃ kl : List UInt8, key = ⟨kl.toArray⟩ := ⟨key.data.toList, by simp⟩
            have HEY : Hid ((EvD.mk kd tx ⟨kl.toArray⟩ has data).ky = kl) := Lib.hid (by simp [EvD.ky])
            clear he hes
            go_upto_region 11 with (fail)
            go_cut [41, 12] from 42 to 62 (fun s x wz => s = .int .i64 j ∧ x = .pointer (some ⟨wr.heap.size, 0, none⟩) ∧ Blk wz wr.heap.size 41 #[.int .i64 kd, .int .i64 tx, .string ⟨kl.toArray⟩, .bool has, .string data] ∧ Upd Nowhere wr wz)
            case first =>
              have hb0 := Blk.new wr 41 #[.int .i64 0, .int .i64 0, .string ⟨#[]⟩, .bool false, .string ⟨#[]⟩]
              have c0 := hb0.cell
              have f0 := hb0.frozen
              have HB := Lib.hid hb0
              clear hb0
              go_wp2_with fail
              go_meet
              exact ⟨rfl, rfl, Blk.new _ _ _, (Upd.refl _ _).alloc _⟩
            case rest =>
              obtain ⟨rfl, rfl, hB, hu⟩ := hcut
              have cb := hB.cell
              have HMC := Lib.hid (HMZ.out.upd hu id)
              have HUC := Lib.hid (HUZ.out.trans (F := fun b => b = vm) hu fun _ _ h => h.elim)
              clear hB hu p0 p1 p2 p3 p4 HMZ
              by_cases h2 : kd = 2
              · subst h2
                obtain ⟨w3, hr3, hm3, hg3, hs3⟩ := HMC.out.store KS (P := Try.prog) Try.underlying76 Try.underlying9 kl (.agg #[.bool has, .string data])
                have HR3 := Lib.hid hr3
                have HM3 := Lib.hid (hm3.congr fun a => valF_set v1 kl (has, data) a)
                have HU3 := Lib.hid (HUC.out.grown hg3 fun kk hkk _ => (Option.some.inj hkk).symm)
                have HRN : Hid (runL ((leftG l o k t).take (j + 1)) vals = some (setV v1 kl (has, data))) := Lib.hid (by
                  rw [take_snoc HE.out, runL_snoc HRL.out, runE_write rfl, HEY.out]; rfl)
                clear hr3 hm3 hg3 hs3
                go_wp2_with (at_mapUpdate; refine wpList_update_run rfl _ _ _ _ rfl rfl rfl rfl HR3.out ?_)
                go_roundw
                case rel => exact ⟨j + 1, _, by omega, by go_num, HRN.out, HM3.out, HU3.out⟩
                case measure => simp [intOf]; omega
              · obtain ⟨lv, hlv, hne, heg⟩ : ∃ lv, (Instr.lookup 76 (.map (some vm)) (.string ⟨kl.toArray⟩) false).run Try.prog wc = .ok lv wc ∧ (binOp .neq 35 lv (.agg #[.bool has, .string data])).run Try.prog wc = .ok (.bool (!((valueOf v1 kl).1 == has && (valueOf v1 kl).2 == data))) wc ∧ (eqGuard .neq 35 (.tmp 58) (.tmp 60) lv (.agg #[.bool has, .string data])).run Try.prog wc = .ok () wc := by
                  refine ⟨valV (valueOf v1 kl), ?_, run_neq_val _ _ _ _ _, ?_⟩
                  · have h := HMC.out.look KS (P := Try.prog) Try.underlying76 Try.underlying9 (z := valV noV) (Try.zeroValue35 _) kl false
                    simp only [Bool.false_eq_true, if_false] at h
                    rw [valF_get] at h
                    exact h
                  · show (eqGuard .neq 35 (.tmp 58) (.tmp 60) (.agg #[.bool (valueOf v1 kl).1, .string (valueOf v1 kl).2]) (.agg #[.bool has, .string data])).run Try.prog wc = .ok () wc
                    go_simp
                by_cases hsv : valueOf v1 kl = (has, data)
                · have hbe : ((valueOf v1 kl).1 == has && (valueOf v1 kl).2 == data) = true := same_val.2 hsv
                  rw [hbe] at hne
                  have HRN : Hid (runL ((leftG l o k t).take (j + 1)) vals = some v1) := Lib.hid (by
                    rw [take_snoc HE.out, runL_snoc HRL.out, runE_right h2 (by rw [HEY.out]; exact hsv)])
                  clear hsv hbe
                  go_wp2_with fail
                  go_roundw
                  case rel => exact ⟨j + 1, _, by omega, by go_num, HRN.out, HMC.out, HUC.out⟩
                  case measure => simp [intOf]; omega
                · have hbe : ((valueOf v1 kl).1 == has && (valueOf v1 kl).2 == data) = false := by
                    cases hx : ((valueOf v1 kl).1 == has && (valueOf v1 kl).2 == data) with
                    | false => rfl
                    | true => exact absurd (same_val.1 hx) hsv
                  rw [hbe] at hne
                  have HRN : Hid (stN l o o.length = none) := Lib.hid (by
                    refine stN_none (k := k + 1) ?_ (by omega)
                    rw [stN_left HST.out HT.out]
                    refine runL_take_none (j := j + 1) ?_
                    rw [take_snoc HE.out, runL_snoc HRL.out, runE_wrong h2 (by rw [HEY.out]; exact hsv)])
                  have HDC : Hid (wc.heap[D]? = some (.deferred (some []))) := Lib.hid (by
                    have h1 := HUC.out.block D (Nat.lt_of_lt_of_le (lt_of_heap HD1.out) HUQ.out.size) (by have := HSZ.out; omega)
                    have h2 := HUQ.out.block D (lt_of_heap HD1.out) (by have := HSZ.out; omega)
                    exact h1.trans (h2.trans HD1.out))
                  have HUF : Hid (Upd Nowhere w wc) := Lib.hid (HUN.out.trans HUC.out fun kk hkk e => by have := HSZ.out; have := HUW2.out; omega)
                  clear hsv hbe
                  go_wp2_with fail
                  all_goals
                    refine ⟨by simp, .inl ⟨_, _, rfl, run_takeDeferred HDC.out, ?_⟩⟩
                    refine ⟨_, results_tmp2 rfl _ _ _, ?_⟩
                    exact RepOut.wrong (w' := wc.putObj D (.deferred none)) HRN.out (HUF.out.grown (grownBy_putObj' _ D _) fun kk hkk _ => by cases hkk; have := HSZ.out; have := HUW2.out; omega)
          · obtain rfl : j = (leftG l o k t).length := by omega
            have hji : ¬ ((leftG l o k t).length : Int) < ((leftG l o k t).length : Nat) := by omega
            have HGZ := Lib.hid (HGQ.out.upd HUZ.out (by have := HSZ.out; omega) fun kk cs ty fz _ hc e => map_ne_cells HMQ.out hc e.symm)
            obtain ⟨w3, hr3, hg3, hu3⟩ := HGZ.out.del (by have := HSZ.out; omega) t
            have HN3 := Lib.hid (hg3.congr (leftG_succ HT.out))
            have HM3 := Lib.hid (HMZ.out.upd hu3 (by have := HSZ.out; omega))
            have HU3 := Lib.hid ((HUQ.out.trans (F := fun b => b = w.heap.size ∨ b = vm) HUZ.out fun _ _ h => .inr h).trans (F := fun b => b = w.heap.size ∨ b = vm) hu3 fun _ _ h => .inl h)
            have HST2 : Hid (stN l o (k + 1) = some v1) := Lib.hid (by
              rw [stN_left HST.out HT.out]
              have := HRL.out
              rwa [List.take_length] at this)
            have cX3 := (HX1.out.upd (HUQ.out.trans (F := fun b => b = w.heap.size ∨ b = vm) HUZ.out fun _ _ h => .inr h) (by have := HSZ.out; omega)).cell
            clear hg3 hu3
            go_wp2_with fail
            go_roundw
            case rel => exact ⟨k + 1, v1, by omega, by go_num, HST2.out, HN3.out, HM3.out, HU3.out⟩
            case measure => simp [intOf]; omega
      · obtain rfl : k = o.length := by omega
        have hi : ¬ (o.length : Int) < (o.length : Nat) := by omega
        have HRI := Lib.hid (stN_rising HST.out)
        have HKO := Lib.hid (stN_keys hky HST.out)
        have HVL : Hid (vals.length ≤ 3600) := Lib.hid (by
          have h1 := stN_len HST.out
          have h2 : o.length * l.length ≤ 60 * 60 := Nat.mul_le_mul hol hl
          omega)
        go_wp2_with (first
          | (go_at_call 38
             refine (hkeys_ok _ _).mono ?_
             rintro r w3 ⟨rfl, rfl⟩)
          | (go_at_call 37
             refine (hsorted_ok HMQ.out HRI.out HKO.out.mem (by have := HVL.out; omega)).mono ?_
             rintro r w4 ⟨v4, rfl, hov, hu4⟩
             obtain ⟨A4, c4, rfl, hc4⟩ := hov.els.val
             simp only [List.length_map] at hc4 hov
             simp only [List.length_map]
             have HOV4 := Lib.hid hov
             have HU4 := Lib.hid hu4
             clear hov hu4))
        have HKE : Hid (Els 1 keyC w4 (.slice A4 vals.length c4) (vals.map (·.1))) := Lib.hid HOV4.out.els
        have HM4 : Hid (MapIs encS w4 vm (valF vals)) := Lib.hid ((HMQ.out.alloc _).upd HU4.out id)
        have HS4 : Hid (vm < wr.heap.size ∧ wr.heap.size ≤ w4.heap.size) := Lib.hid ⟨HMQ.out.lt, by have := HU4.out.size; simp at this; omega⟩
        have HUW4 : Hid (Upd Nowhere w w4) := Lib.hid ((HUN.out.alloc _).trans HU4.out fun _ _ => id)
        have HD4 : Hid (w4.heap[D]? = some (.deferred (some []))) := Lib.hid (by
          have h1 := HU4.out.block D (by have := HS4.out; have := HSZ.out; simp; omega) id
          have h2 := HUQ.out.block D (lt_of_heap HD1.out) (by have := HSZ.out; omega)
          have h3 : (wr.alloc (.cells #[.map (some vm)] 76)).heap[D]? = wr.heap[D]? := Below.heap_alloc wr _ D (by have := HS4.out; have := HSZ.out; omega)
          exact h1.trans (h3.trans (h2.trans HD1.out)))
        clear HMQ HU4 HGQ HOV4
        go_loopw [13, 70] (fun s t wz => ∃ k : Nat, k ≤ vals.length ∧ t = .int .i64 k ∧ OwnR 83 cellC 3 w4.heap.size wz s (vals.take k) ∧ Upd Nowhere w4 wz) (fun _ t _ => vals.length - (intOf t).toNat)
        case atStart => exact ⟨0, by omega, rfl, OwnR.nil _ _ _ _ _, Upd.refl _ _⟩
        case round =>
          obtain ⟨k, hk, rfl, hov, hu⟩ := hrel
          have HOV := Lib.hid hov
          have HUZ := Lib.hid hu
          clear hov hu
          have hvl := HVL.out
          by_cases hlt : k < vals.length
          · obtain ⟨⟨kk, b2, s2⟩, hp⟩ : ∃ p, vals[k]? = some p := ⟨_, List.getElem?_eq_getElem hlt⟩
            have hpk : (vals.map (·.1))[k]? = some kk := by simp [hp]
            obtain ⟨b9, o9, c9, hE9, hb9, hq⟩ := (HKE.out.upd HUZ.out fun _ _ => id).get (fun _ => rfl) hpk
            have q0 := hq 0 (by decide)
            simp only [List.length_map] at hE9
            cases hE9
            simp only [Nat.mul_one, Nat.add_zero, List.getElem?_cons_zero] at q0
            have hki : (k : Int) < (vals.length : Nat) := by omega
            have hlv : (Instr.lookup 76 (.map (some vm)) (.string ⟨kk.toArray⟩) false).run Try.prog wr = .ok (.agg #[.bool b2, .string s2]) wr := by
              have h := (HM4.out.upd HUZ.out id).look KS (P := Try.prog) Try.underlying76 Try.underlying9 (z := valV noV) (Try.zeroValue35 _) kk false
              simp only [Bool.false_eq_true, if_false] at h
              rw [valF_get, rising_value HRI.out hp] at h
              exact h
            obtain ⟨v5, w5, hr5, ho5, hg5, hb5⟩ := rkC.app1 HOV.out (by have := HUZ.out.size; omega) 37 (kk, b2, s2) #[.string ⟨kk.toArray⟩, .bool b2, .string s2] rfl (by simp; omega)
            have HR5 := Lib.hid hr5
            have HO5 := Lib.hid ho5
            have HG5 := Lib.hid hg5
            have HP := Lib.hid hp
            clear hr5 ho5 hg5 hb5 hp hpk hq
            go_wp2_with (at_builtin; refine wpList_append_run rfl _ _ _ rfl rfl rfl HR5.out ?_)
            go_roundw
            case rel => exact ⟨k + 1, by omega, by go_num, by rw [take_snoc HP.out]; exact HO5.out, HUZ.out.grown HG5.out fun x hx _ => by have := HOV.out.new x hx; omega⟩
            case measure => simp [intOf]; omega
          · obtain rfl : k = vals.length := by omega
            have hki : ¬ (vals.length : Int) < (vals.length : Nat) := by omega
            have HDW4 : Hid (wr.heap[D]? = some (.deferred (some []))) := Lib.hid ((HUZ.out.block D (lt_of_heap HD4.out) id).trans HD4.out)
            go_wp2_with fail
            refine ⟨by simp, .inl ⟨_, _, rfl, run_takeDeferred HDW4.out, ?_⟩⟩
            have hos := HSZ.out
            have hs4 := HS4.out
            have huw := HUW2.out
            have hrow := HOV.out
            rw [List.take_length] at hrow
            refine ⟨_, results_tmp2 rfl _ _ _, RepOut.right (w' := wr.putObj D (.deferred none)) HST.out ⟨?_, fun x hx => ?_, ((HUW4.out.trans HUZ.out fun _ _ => id).grown (grownBy_putObj' _ D _) fun x hx _ => ?_)⟩⟩
            · exact own_upd hrow.row ((Upd.refl (· = D) wr).grown (grownBy_putObj' _ D _) fun x hx _ => (Option.some.inj hx).symm) fun x hx e => by have := hrow.new x hx; omega
            · have := hrow.new x hx; omega
            · cases hx; omega
  case stop =>
    rintro D c pre W _ _ h _
    exact h.elim
end Go.Proofs.Ytddknmgajacofaa
