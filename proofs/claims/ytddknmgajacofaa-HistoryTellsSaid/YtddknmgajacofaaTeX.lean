/-
  A row of pairs, sorted by the closure of Ahead.
-/
import Derived.Test.YtddknmgajacofaaTeV
import Derived.Test.YtddknmgajacofaaTeW
import Derived.Test.YtddknmgajacofaaTeA
namespace Go.Proofs.Ytddknmgajacofaa
open Go Go.RowKit Go.Shelf Go.Lib Go.Sort
attribute [local go_sem] Oper.semAt_some

def cmpI (x y : Int) : Int := if x < y then -1 else if y < x then 1 else 0
def cmpP (p q : Int × Int) : Int := if cmpI p.1 q.1 ≠ 0 then cmpI p.1 q.1 else cmpI p.2 q.2
theorem cmpP_lt (p q : Int × Int) : ltOf cmpP p q = decide (ltE p q) := by
  unfold ltOf cmpP cmpI ltE
  congr 1
  apply propext
  split <;> split <;> (try split) <;> (try split) <;> omega
theorem cmpI_ok (x y : Int) (w : World) : Calls Try.prog 49 #[.int .i64 x, .int .i64 y] w fun e w' => e = .returned (.int .i64 (cmpI x y)) ∧ w' = w := by
  have hn : ∀ (z : Int) (w : World), Calls Try.prog 77 #[.int .i64 z] w fun e w' => e = .returned (.bool false) ∧ w' = w := by
    intro z w
    go_enter Try.func77, Try.ntmps77
    have : ¬ ¬ z = z := fun h => h rfl
    go_wp2_with fail
    go_ret
    exact ⟨by simp, rfl⟩
  unfold cmpI
  go_enter Try.func49, Try.ntmps49
  by_cases h1 : x < y
  · go_wp2_with (go_at_call 77; refine (hn _ _).mono ?_; rintro e w9 ⟨rfl, rfl⟩)
    go_ret
    exact ⟨by simp, rfl⟩
  · by_cases h2 : y < x
    · go_wp2_with (go_at_call 77; refine (hn _ _).mono ?_; rintro e w9 ⟨rfl, rfl⟩)
      go_ret
      exact ⟨by simp, rfl⟩
    · go_wp2_with (go_at_call 77; refine (hn _ _).mono ?_; rintro e w9 ⟨rfl, rfl⟩)
      go_ret
      exact ⟨by simp, rfl⟩
set_option maxHeartbeats 4000000 in
set_option maxRecDepth 100000 in
theorem cmp2_ok {w : World} {ba bb : Nat} {p q : Int × Int} (ha : Blk w ba 44 #[.int .i64 p.1, .int .i64 p.2]) (hb : Blk w bb 44 #[.int .i64 q.1, .int .i64 q.2]) :
    Calls Try.prog 34 #[.slice (some ⟨ba, 0, none⟩) 2 2, .slice (some ⟨bb, 0, none⟩) 2 2] w fun e w' => e = .returned (.int .i64 (cmpP p q)) ∧ w' = w := by
  have ca := ha.cell
  have cb := hb.cell
  have hc := fun x y => cmpI_ok x y w
  unfold cmpP
  generalize h1 : cmpI p.1 q.1 = r1 at *
  generalize h2 : cmpI p.2 q.2 = r2 at *
  have hc1 := hc p.1 q.1
  have hc2 := hc p.2 q.2
  rw [h1] at hc1
  rw [h2] at hc2
  have HC1 := Lib.hid hc1
  have HC2 := Lib.hid hc2
  clear hc hc1 hc2
  go_enter Try.func34, Try.ntmps34
  by_cases e1 : r1 = 0
  · by_cases e2 : r2 = 0
    · subst e1 e2
      go_wp2_with fail
      refine wp_loop_rounds 3 ?_
      rw [rounds_succ]
      go_wp2_with (go_at_call 49; refine HC1.out.mono ?_; rintro e w9 ⟨rfl, hw9⟩; obtain rfl : w = w9 := hw9.symm)
      rw [rounds_succ]
      go_wp2_with (go_at_call 49; refine HC2.out.mono ?_; rintro e w9 ⟨rfl, hw9⟩; obtain rfl : w = w9 := hw9.symm)
      rw [rounds_succ]
      go_wp2_with fail
      go_ret
      exact ⟨by simp, rfl⟩
    · subst e1
      go_wp2_with fail
      refine wp_loop_rounds 3 ?_
      rw [rounds_succ]
      go_wp2_with (go_at_call 49; refine HC1.out.mono ?_; rintro e w9 ⟨rfl, hw9⟩; obtain rfl : w = w9 := hw9.symm)
      rw [rounds_succ]
      go_wp2_with (go_at_call 49; refine HC2.out.mono ?_; rintro e w9 ⟨rfl, hw9⟩; obtain rfl : w = w9 := hw9.symm)
      go_ret
      exact ⟨by simp, rfl⟩
  · go_wp2_with fail
    refine wp_loop_rounds 3 ?_
    rw [rounds_succ]
    go_wp2_with (go_at_call 49; refine HC1.out.mono ?_; rintro e w9 ⟨rfl, hw9⟩; obtain rfl : w = w9 := hw9.symm)
    go_ret
    exact ⟨by simp, rfl⟩
theorem cmpLess_ok (p q : Int × Int) (w : World) : Calls Try.prog 33 #[.agg #[.int .i64 p.1, .int .i64 p.2], .agg #[.int .i64 q.1, .int .i64 q.2]] w fun e w' => e = .returned (.int .i64 (cmpP p q)) ∧ ∃ k os, w' = grow (w.drewN k) os := by
  have ha := ((Blk.new w 44 #[.int .i64 p.1, .int .i64 p.2]).alloc (.cells #[.int .i64 q.1, .int .i64 q.2] 44))
  have hb := (Blk.new (w.alloc (.cells #[.int .i64 p.1, .int .i64 p.2] 44)) 44 #[.int .i64 q.1, .int .i64 q.2])
  have hc := Lib.hid (fun k => cmp2_ok (ha.drewN k) (hb.drewN k))
  simp only [World.size_alloc] at hc
  have HG : Hid (∀ k, ((w.alloc (.cells #[.int .i64 p.1, .int .i64 p.2] 44)).alloc (.cells #[.int .i64 q.1, .int .i64 q.2] 44)).drewN k = grow (w.drewN k) (#[.cells #[.int .i64 p.1, .int .i64 p.2] 44] ++ #[.cells #[.int .i64 q.1, .int .i64 q.2] 44])) := Lib.hid fun k => by
    rw [alloc_eq_grow, alloc_eq_grow, grow_grow]
    rfl
  clear ha hb
  generalize cmpP p q = r at *
  go_enter Try.func33, Try.ntmps33
  go_wp2_with (fail)
  go_quiet ((go_at_call 34; exact Calls.quiet_of_same (hc.out _)))
  go_wp2_with fail
  go_ret
  exact ⟨rfl, _, _, HG.out _⟩
theorem dirty_one (x : Int × Int) (v : Value) (h : v ∈ dirtyCells x) : v.oneCell' = true := rkP.one x v h
theorem cmpP_swo : SWO (ltOf cmpP) where
  irrefl x := by rw [cmpP_lt]; simp [ltE_irrefl]
  trans x y z h1 h2 := by rw [cmpP_lt] at *; simp at *; exact ltE_trans h1 h2
  ntrans x y z h1 h2 := by
    rw [cmpP_lt] at *
    simp at *
    unfold ltE at *
    omega
theorem cmpP_tot (x y : Int × Int) (h1 : ltOf cmpP x y = false) (h2 : ltOf cmpP y x = false) : x = y := by
  rw [cmpP_lt] at *
  simp at *
  exact Classical.byContradiction fun hne => h2 (ltE_tri h1 hne)
theorem cmpP_lays (blk off size : Nat) (w : World) : CmpLays Try.prog 33 #[] dirtyCells 2 cmpP blk off size w := fun _ _ _ _ x y => cmpLess_ok x y _
/-- The sorted row. -/
theorem sorted_merge {xs : List (Int × Int)} (hnd : xs.Nodup) : SortedE (xs.mergeSort fun x y => !(ltOf cmpP) y x) ∧ ∀ p, p ∈ (xs.mergeSort fun x y => !(ltOf cmpP) y x) ↔ p ∈ xs := by
  have hp := List.mergeSort_perm xs (fun x y => !(ltOf cmpP) y x)
  refine ⟨?_, fun p => hp.mem_iff⟩
  have h1 := List.pairwise_mergeSort (le := fun x y => !(ltOf cmpP) y x) (fun a b c h1 h2 => by
    rw [cmpP_lt] at *
    simp at *
    unfold ltE at *
    omega) (fun a b => by
    simp only [cmpP_lt]
    simp
    unfold ltE
    omega) xs
  have h2 := hp.nodup_iff.2 hnd
  exact (h1.and h2).imp fun {a b} h => by
    obtain ⟨h3, h4⟩ := h
    rw [cmpP_lt] at h3
    simp at h3
    exact ltE_tri h3 (fun e => h4 e.symm)

section
variable {α : Type} [Inhabited α] {w : World} {B b n cap size : Nat} {TE : TypeId} {xs ys : List Value}
theorem own_holds (enc : α → Value) (d : Array α) (h : w.ownsRow B TE size (.slice (some ⟨b, 0, none⟩) n cap) n xs) (hd : d.toList.map enc = xs) : Holds enc w b 0 d := by
  obtain ⟨hl, h | ⟨g, c, cur, he, _, hh, _, _, hcs, ht⟩⟩ := h
  · cases h.1
  · cases he
    intro j hj
    have hx : xs[j]? = some (enc d[j]!) := by
      rw [← hd, List.getElem?_map, Array.getElem?_toList, Array.getElem?_eq_getElem hj, getElem!_pos d j hj]
      rfl
    refine ⟨?_, by simp [World.frozen?, hh]⟩
    rw [← ht, List.getElem?_take] at hx
    have hx2 : cur.toList[j]? = some (enc d[j]!) := by
      split at hx
      · exact hx
      · cases hx
    simp only [Nat.zero_add]
    unfold World.cell?
    simp only [hh]
    rw [← Array.getElem?_toList]
    exact hx2
theorem own_putRow (enc : α → Value) (d : Array α) (m : Nat) (os : Array Obj) (h : w.ownsRow B TE size (.slice (some ⟨b, 0, none⟩) n cap) n xs) (hd : d.toList.map enc = ys) (hl : ys.length = xs.length) :
    (grow (putRow enc (Sort.ahead w m) b 0 d) os).ownsRow B TE size (.slice (some ⟨b, 0, none⟩) n cap) n ys ∧ Upd (fun k => k = b) w (grow (putRow enc (Sort.ahead w m) b 0 d) os) := by
  have hheap : ∀ k, k < w.heap.size → (grow (putRow enc (Sort.ahead w m) b 0 d) os).heap[k]? = if b = k then (w.heap[k]?).map (onCells (putCells enc 0 d)) else w.heap[k]? := by
    intro k hk
    show ((w.heap.modify b (onCells (putCells enc 0 d))) ++ os)[k]? = _
    rw [Array.getElem?_append_left (by simpa using hk), Array.getElem?_modify]
  have hu : Upd (fun k => k = b) w (grow (putRow enc (Sort.ahead w m) b 0 d) os) := ⟨rfl, rfl, rfl, by simp [grow, putRow, mapBlock, Sort.ahead], fun k hk hn => by rw [hheap k hk, if_neg fun e => hn e.symm]⟩
  refine ⟨?_, hu⟩
  obtain ⟨h1, h | ⟨g, c, cur, he, hb, hh, h2, h3, hcs, ht⟩⟩ := h
  · cases h.1
  · cases he
    refine ⟨hl.trans h1, .inr ⟨b, cap, putCells enc 0 d cur, rfl, hb, ?_, h2, h3, by simp [putCells, hcs], ?_⟩⟩
    · rw [hheap b (lt_of_heap hh), if_pos rfl, hh]
      rfl
    · have hds : d.size = n * size := by
        have := congrArg List.length hd
        simp at this
        omega
      refine List.ext_getElem? fun t => ?_
      rw [List.getElem?_take, ← hd, List.getElem?_map, Array.getElem?_toList, Array.getElem?_toList]
      by_cases h4 : t < n * size
      · have h5 : t < cur.size := by
          have := Nat.mul_le_mul_right size h2
          omega
        rw [if_pos h4, Array.getElem?_eq_getElem (by omega : t < d.size)]
        unfold putCells
        rw [Array.getElem?_mapIdx, Array.getElem?_eq_getElem h5]
        simp only [Option.map_some, Nat.zero_le, Nat.zero_add, true_and, Nat.sub_zero]
        rw [if_pos (by omega), getElem!_pos d t (by omega)]
      · rw [if_neg h4, Array.getElem?_eq_none (by omega)]
        rfl
theorem flatK_list (enc : α → List Value) (k : Nat) (hk : ∀ x, (enc x).length = k) (h0 : 0 < k) (l : List α) : (flatK enc k l.toArray).toList = l.flatMap enc := by
  refine List.ext_getElem? fun t => ?_
  by_cases h1 : t < l.length * k
  · have h2 : t / k < l.length := (Nat.div_lt_iff_lt_mul h0).2 h1
    have h3 : t % k < k := Nat.mod_lt _ h0
    have h4 := flatMap_get hk (List.getElem?_eq_getElem h2) (t % k) h3
    rw [show t / k * k + t % k = t from by rw [Nat.mul_comm]; exact Nat.div_add_mod t k] at h4
    rw [h4, Array.getElem?_toList]
    unfold flatK
    rw [Array.getElem?_map, Array.getElem?_range]
    simp only [List.size_toArray, h1, if_true, Option.map_some]
    have h5 : t / k < l.toArray.size := by simpa using h2
    rw [getElem!_pos l.toArray (t / k) h5]
    have h6 : t % k < (enc l[t / k]).length := by rw [hk]; exact h3
    rw [List.getElem?_eq_getElem h6]
    simp
    rw [List.getElem?_eq_getElem h6]
    rfl
  · rw [List.getElem?_eq_none (by simp [flatK]; omega), List.getElem?_eq_none (by rw [flatMap_len hk]; omega)]
end
set_option maxHeartbeats 4000000 in
theorem psort_ok {w : World} {B : Nat} {v : Value} {xs : List (Int × Int)} (h : OwnP B w v xs) (hl : xs.length ≤ 100000) : Calls Try.prog 32 #[v, .func (.func 33) #[] #[]] w fun e w' => e = .returned (.tuple #[]) ∧ OwnP B w' v (xs.mergeSort fun x y => !(ltOf cmpP) y x) ∧ Upd (fun k => v.ownBlock = some k) w w' := by
  rcases List.eq_nil_or_concat xs with rfl | ⟨ys, y, rfl⟩
  · obtain ⟨A, c, rfl, hc⟩ := h.els.val
    have h9 := AnyF.slices_SortFunc_none (P := Try.prog) (ρ := Try.l6_ren) { Try.l6 with } A c (.func (.func 33) #[] #[]) w
    refine Calls.mono h9 ?_
    rintro e w' ⟨rfl, rfl⟩
    exact ⟨rfl, by simpa using h, Upd.refl _ _⟩
  · generalize hxs : ys.concat y = xs at *
    have hne : xs ≠ [] := by rw [← hxs]; simp
    have hrow := h.row
    have hnew := h.new
    obtain ⟨_, h0 | ⟨g, cap, cur, rfl, _, hh, _⟩⟩ := h.row
    · exact absurd (List.length_eq_zero_iff.1 h0.2) hne
    · have hH : HoldsK dirtyCells 2 w g 0 xs.toArray := own_holds id _ hrow (by rw [List.map_id]; exact flatK_list _ _ dirtyCells_len (by decide) xs)
      have h9 := AnyQ.slices_SortFunc_total Try.l6 2 (fun _ => by kernel_rfl) (fun _ => by kernel_rfl) dirtyCells dirtyCells_len dirty_one cmpP cmpP_swo 33 #[] g 0 cap xs.toArray w (enters_of Try.func33 (by kernel_rfl) rfl) (cmpP_lays _ _ _ _) hH (lt_of_heap hh) (by simp; omega) cmpP_tot
      have e9 : xs.toArray.size = xs.length := by simp
      rw [e9] at h9
      refine Calls.mono h9 ?_
      rintro e w' ⟨rfl, m, os, rfl⟩
      obtain ⟨h1, h2⟩ := own_putRow id (flatK dirtyCells 2 (xs.mergeSort fun x y => !(ltOf cmpP) y x).toArray) m os hrow (ys := (xs.mergeSort fun x y => !(ltOf cmpP) y x).flatMap dirtyCells) (by rw [List.map_id]; exact flatK_list _ _ dirtyCells_len (by decide) _) (by rw [flatMap_len dirtyCells_len, flatMap_len dirtyCells_len, List.length_mergeSort])
      refine ⟨rfl, ⟨?_, hnew⟩, h2.mono fun k _ e => ?_⟩
      · rw [List.length_mergeSort]
        exact h1
      · subst e; rfl
end Go.Proofs.Ytddknmgajacofaa
