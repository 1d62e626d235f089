/-
  What Serial calls: a row of numbers sorted, one taken out, the first who waits for nobody.
-/
import Derived.Test.YtddknmgajacofaaTeY
import Derived.Test.YtddknmgajacofaaTeX
import Derived.Test.YtddknmgajacofaaTeC
import Derived.Test.YtddknmgajacofaaTeK
import Derived.Test.YtddknmgajacofaaTeM
import Derived.Test.YtddknmgajacofaaTeO
namespace Go.Proofs.Ytddknmgajacofaa
open Go Go.RowKit Go.Shelf Go.Lib Go.Sort
attribute [local go_sem] Oper.semAt_some

theorem numC_map (l : List Int) : l.map (Value.int .i64) = l.flatMap numC := by
  induction l with
  | nil => rfl
  | cons x l ih => rw [List.map_cons, List.flatMap_cons, ih]; rfl
theorem isort_ok {w : World} {B : Nat} {v : Value} {xs : List Int} (h : OwnI B w v xs) (hl : xs.length ≤ 100000) : Calls Try.prog 21 #[v] w fun e w' => e = .returned (.tuple #[]) ∧ OwnI B w' v (xs.mergeSort fun x y => decide (x ≤ y)) ∧ Upd (fun k => v.ownBlock = some k) w w' := by
  rcases List.eq_nil_or_concat xs with rfl | ⟨ys, y, rfl⟩
  · obtain ⟨A, c, rfl, hc⟩ := h.els.val
    have h9 := AnyM.slices_Sort_int_none (P := Try.prog) (ρ := Try.l5_ren) Try.l5 A c w
    refine Calls.mono h9 ?_
    rintro e w' ⟨rfl, rfl⟩
    exact ⟨rfl, by simpa using h, Upd.refl _ _⟩
  · generalize hxs : ys.concat y = xs at *
    have hne : xs ≠ [] := by rw [← hxs]; simp
    have hrow := h.row
    have hnew := h.new
    obtain ⟨_, h0 | ⟨g, cap, cur, rfl, _, hh, _⟩⟩ := h.row
    · exact absurd (List.length_eq_zero_iff.1 h0.2) hne
    · have hH : Holds (Value.int .i64) w g 0 xs.toArray := own_holds (Value.int .i64) _ hrow (numC_map xs)
      have h9 := AnyM.slices_Sort_int Try.l5 g 0 cap xs w hH (lt_of_heap hh) (by omega)
      refine Calls.mono h9 ?_
      rintro e w' ⟨rfl, m, os, rfl⟩
      obtain ⟨h1, h2⟩ := own_putRow (Value.int .i64) (xs.mergeSort fun x y => decide (x ≤ y)).toArray m os hrow (ys := (xs.mergeSort fun x y => decide (x ≤ y)).flatMap numC) (numC_map _) (by rw [← numC_map, ← numC_map, List.length_map, List.length_map, List.length_mergeSort])
      refine ⟨rfl, ⟨?_, hnew⟩, h2.mono fun k _ e => ?_⟩
      · rw [List.length_mergeSort]
        exact h1
      · subst e; rfl
theorem idelete_ok {w : World} {B : Nat} {v : Value} {xs : List Int} (h : OwnI B w v xs) {i : Nat} (hi : i < xs.length) : Calls Try.prog 24 #[v, .int .i64 i, .int .i64 (i + 1 : Nat)] w fun e w' => ∃ v', e = .returned v' ∧ OwnI B w' v' (xs.take i ++ xs.drop (i + 1)) ∧ v'.ownBlock = v.ownBlock ∧ Upd (fun k => v.ownBlock = some k) w w' := by
  have hrow := h.row
  have hnew := h.new
  obtain ⟨_, h0 | ⟨g, cap, cur, rfl, hb, hh, hc, hcm, hcs, _⟩⟩ := h.row
  · omega
  · have hH : Holds (Value.int .i64) w g 0 xs.toArray := own_holds (Value.int .i64) _ hrow (numC_map xs)
    obtain ⟨i0, hi0, hz1⟩ : ∃ i0, Try.prog.info? (Try.l45_ren.t 23) = some i0 ∧ i0.size = 1 := by
      obtain ⟨z, b, hz, _⟩ := rkI.info
      obtain ⟨i1, h1, _, h2, _⟩ := info_parts hz
      exact ⟨i1, h1, h2⟩
    have h9 := AnyE.slices_Delete Try.l45 (Value.int .i64) (fun _ => rfl) 0 (fun _ => by kernel_rfl) i0 hi0 hz1 g 0 cap i (i + 1) xs.toArray w hH (by simpa using hc) (by simp only [maxLen] at hcm; omega) (by omega) (by simp; omega)
    rw [show xs.toArray.size = xs.length by simp] at h9
    refine Calls.mono h9 ?_
    rintro e w' ⟨rfl, m, rfl⟩
    have e1 : i + 1 - i = 1 := by omega
    have e2 : xs.toArray.toList = xs := rfl
    rw [e1, e2, ← grow_empty (putRow _ _ _ _ _)]
    obtain ⟨h1, h2⟩ := own_putRow (Value.int .i64) (xs.take i ++ xs.drop (i + 1) ++ List.replicate 1 0).toArray m #[] hrow (ys := (xs.take i ++ xs.drop (i + 1) ++ List.replicate 1 0).flatMap numC) (numC_map _) (by rw [← numC_map, ← numC_map, List.length_map, List.length_map]; simp; omega)
    have hlen : (xs.take i ++ xs.drop (i + 1)).length = xs.length - 1 := by simp; omega
    refine ⟨_, rfl, ⟨?_, hnew⟩, rfl, h2.mono fun k _ e => by subst e; rfl⟩
    rw [hlen]
    obtain ⟨_, h0 | ⟨g', cap', cur', he, hb', hh', hc', hcm', hcs', ht'⟩⟩ := h1
    · cases h0.1
    · cases he
      refine ⟨by rw [← numC_map, List.length_map, hlen]; omega, .inr ⟨g, cap, cur', rfl, hb', hh', by omega, hcm', hcs', ?_⟩⟩
      rw [List.flatMap_append] at ht'
      have h5 : (cur'.toList.take (xs.length * 1)).take ((xs.length - 1) * 1) = (xs.take i ++ xs.drop (i + 1)).flatMap numC := by
        rw [ht', List.take_append_of_le_length (by rw [← numC_map, List.length_map, hlen]; omega), List.take_of_length_le (by rw [← numC_map, List.length_map, hlen]; omega)]
      rw [List.take_take, Nat.min_eq_left (by omega)] at h5
      exact h5
/-- For how many does each one wait? -/
def WtAt (W : World) (b : Nat) (c : Int → Int) : Prop := ∃ F, MapIs encI W b F ∧ ∀ t, (F t).getD (.int .i64 0) = .int .i64 (c t)
section
variable {W W' : World} {b : Nat} {c : Int → Int}
theorem WtAt.lt (h : WtAt W b c) : b < W.heap.size := by obtain ⟨_, h, _⟩ := h; exact h.lt
theorem WtAt.upd {F : Nat → Prop} (h : WtAt W b c) (hu : Upd F W W') (hn : ¬ F b) : WtAt W' b c := by obtain ⟨f, h1, h2⟩ := h; exact ⟨f, h1.upd hu hn, h2⟩
theorem WtAt.congr {c' : Int → Int} (h : WtAt W b c) (e : ∀ t, c t = c' t) : WtAt W b c' := by rw [show c' = c from funext fun t => (e t).symm]; exact h
theorem WtAt.ne_blk (h : WtAt W b c) {g : Nat} {t : TypeId} {cs : Array Value} (hg : Blk W g t cs) : g ≠ b := by obtain ⟨_, h, _⟩ := h; exact map_ne_blk h hg
theorem WtAt.new' {n : Nat} (w : World) (hn : n = w.heap.size) : WtAt (w.alloc (.map #[] 0)) n (fun _ => 0) := ⟨_, mapNew' w hn, fun _ => rfl⟩
theorem WtAt.look (h : WtAt W b c) (t : Int) : (Instr.lookup 47 (.map (some b)) (.int .i64 t) false).run Try.prog W = .ok (.int .i64 (c t)) W := by
  obtain ⟨f, h1, h2⟩ := h
  have h3 := h1.look KI (P := Try.prog) Try.underlying47 Try.underlying3 (z := .int .i64 0) (Try.zeroValue3 W) t false
  rw [h2] at h3
  exact h3
theorem WtAt.set (h : WtAt W b c) (t n : Int) : ∃ W', (Instr.mapUpdate 47 (.map (some b)) (.int .i64 t) (.int .i64 n)).run Try.prog W = .ok () W' ∧ WtAt W' b (fun x => if x = t then n else c x) ∧ Upd (fun k => k = b) W W' ∧ W'.heap.size = W.heap.size := by
  obtain ⟨f, h1, h2⟩ := h
  obtain ⟨W', hr, hm, hg, hs⟩ := h1.store KI (P := Try.prog) Try.underlying47 Try.underlying3 t (.int .i64 n)
  refine ⟨W', hr, ⟨_, hm, fun x => ?_⟩, (Upd.refl _ W).grown hg fun k hk _ => (Option.some.inj hk).symm, hs⟩
  by_cases e : x = t
  · subst e; rw [putF_same]; simp
  · rw [putF_other _ e, h2]; simp [e]
end
theorem ready_ok {w : World} {b b7 : Nat} {c : Int → Int} (h7 : Blk w b7 47 #[.map (some b)]) (hm : WtAt w b c) (x : Int) : Calls Try.prog 23 #[.int .i64 x, .pointer (some ⟨b7, 0, none⟩)] w fun e w' => e = .returned (.bool (decide (c x = 0))) ∧ w' = w := by
  have c7 := h7.cell
  have hl := hm.look x
  generalize c x = n at *
  go_enter Try.func23, Try.ntmps23
  by_cases h0 : n = 0
  · go_wp2_with fail
    go_ret
    exact ⟨by simp [h0], rfl⟩
  · go_wp2_with fail
    go_ret
    exact ⟨by simp [h0], rfl⟩
set_option maxHeartbeats 4000000 in
set_option maxRecDepth 100000 in
theorem index_first {w : World} {v : Value} {L : List Int} {b b7 : Nat} {c : Int → Int} (h : NumsE w v L) (hl : L.length ≤ 100000) (h7 : Blk w b7 47 #[.map (some b)]) (hm : WtAt w b c) {i : Nat} {x : Int} (hx : L[i]? = some x) (h0 : c x = 0) (hf : ∀ j y, j < i → L[j]? = some y → c y ≠ 0) :
    Calls Try.prog 22 #[v, .func (.func 23) #[] #[.pointer (some ⟨b7, 0, none⟩)]] w fun e w' => e = .returned (.int .i64 i) ∧ w' = w := by
  obtain ⟨A, k, rfl, hc⟩ := h.val
  have H := Lib.hid h
  have HC := Lib.hid (fun y => ready_ok h7 hm y)
  have HX := Lib.hid hx
  have HF := Lib.hid hf
  have hil : i < L.length := (List.getElem?_eq_some_iff.1 hx).1
  clear h hx hf
  go_enter Try.func22, Try.ntmps22
  go_wp2_with fail
  go_loopw [8] (fun s wr => ∃ j : Nat, j ≤ i ∧ s = .int .i64 j ∧ wr = w) (fun s _ => i - (intOf s).toNat)
  case atStart => exact ⟨0, by omega, rfl, rfl⟩
  case round =>
    obtain ⟨j, hj, rfl, rfl⟩ := hrel
    have hlt : j < L.length := by omega
    obtain ⟨y, hy⟩ : ∃ y, L[j]? = some y := ⟨_, List.getElem?_eq_getElem hlt⟩
    obtain ⟨b9, off, c', he, hb, c0⟩ := num_at H.out hy
    cases he
    have hji : (j : Int) < (L.length : Nat) := by omega
    by_cases hz : c y = 0
    · have : j = i := Classical.byContradiction fun hne => HF.out j y (by omega) hy hz
      subst this
      go_wp2_with ((first | go_at_call 23 | go_at_fn 23); refine (HC.out _).mono ?_; rintro e w9 ⟨rfl, hw9⟩; obtain rfl : wr = w9 := hw9.symm)
      go_ret
      exact ⟨rfl, rfl⟩
    · have hne : j ≠ i := fun e => by
        subst e
        rw [HX.out] at hy
        cases hy
        exact hz h0
      clear hy
      go_wp2_with ((first | go_at_call 23 | go_at_fn 23); refine (HC.out _).mono ?_; rintro e w9 ⟨rfl, hw9⟩; obtain rfl : wr = w9 := hw9.symm)
      go_roundw
      case rel => exact ⟨j + 1, by omega, by go_num, trivial⟩
      case measure => simp [intOf]; omega
end Go.Proofs.Ytddknmgajacofaa
