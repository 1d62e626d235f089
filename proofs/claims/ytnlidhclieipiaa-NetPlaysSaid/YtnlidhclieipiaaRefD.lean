/-
  The reference's net: Spoil.
-/
import Derived.Test.YtnlidhclieipiaaRefC
namespace Go.Proofs.Ytnlidhclieipiaa
open Go Go.RowKit

theorem flat_spoil {M : Pcls} {i k : Nat} {b : UInt8} {x : Pcl × Value} (hx : M[i]? = some x) : flat (M.set i (x.1.spoil k b, x.2)) = (flat M).set (i * 4 + 3) (.bool true) := by
  induction M generalizing i with
  | nil => simp at hx
  | cons y M ih =>
    rcases i with _ | i
    · obtain rfl : y = x := by simpa using hx
      simp [flat, Pcl.cells, Pcl.spoil]
    · have h' : M[i]? = some x := by simpa using hx
      have := ih h'
      simp only [flat, List.flatMap_cons, List.set_cons_succ] at this ⊢
      rw [this]
      have e : (i + 1) * 4 + 3 = (y.1.cells y.2).toList.length + (i * 4 + 3) := by simp [Pcl.cells]; omega
      rw [e, List.set_append_right _ _ (by omega)]
      congr 2
      omega

/-- An owned row of parcels: one cell of it is written. -/
theorem own_store4 {w : World} {e : TypeId} {A : Option Addr} {n c : Nat} {xs : List Value} (h : w.ownsRow 0 e 4 (.slice A n c) n xs) {k : Nat} (hk : k < n * 4) (u : Value) :
    ∃ g, A = some ⟨g, 0, none⟩ ∧ (∀ j, j < n * 4 → w.cell? ⟨g, j, none⟩ = xs[j]?) ∧ (∀ j, w.frozen? ⟨g, j, none⟩ = false) ∧ g < w.heap.size ∧ (w.setCell ⟨g, k, none⟩ u).ownsRow 0 e 4 (.slice A n c) n (xs.set k u) := by
  obtain ⟨h1, ⟨h2, rfl⟩ | ⟨g, cap, cur, hv, hb, hh, hnc, hcm, hcs, htk⟩⟩ := h
  · omega
  · injection hv with e1 e2 e3
    subst e1 e3
    refine ⟨g, rfl, fun j hj => ?_, fun j => (show Blk w g e cur from hh).frozen j, lt_of_heap hh, ?_⟩
    · rw [(show Blk w g e cur from hh).cell j, ← htk, List.getElem?_take]
      simp [hj]
    · refine ⟨by simpa using h1, .inr ⟨g, c, cur.setIfInBounds k u, rfl, hb, (show Blk w g e cur from hh).set_ k u, hnc, hcm, by simpa using hcs, ?_⟩⟩
      rw [← htk]
      simp [List.take_set]

section
variable (bm : Nat) (vL : Value) (M : Pcls) (lost : Int) (w : World)
set_option maxHeartbeats 1000000 in
theorem refSpoil_range (i at_ : Int) (mask : UInt8) (h : RefP w bm vL M lost) (hi : i < 0 ∨ (M.length : Int) ≤ i) :
    Calls Try.prog 25 #[.pointer (some ⟨bm, 0, none⟩), .int .i64 i, .int .i64 at_, .int .u8 mask.toNat] w fun e w' => e = .returned (.int .i64 1) ∧ w = w' := by
  obtain ⟨AL, cL, rfl⟩ := h.form
  have HIS := Lib.hid (is_ok bm AL M.length cL lost i w h.blk)
  have d0 : decide (0 ≤ i ∧ i < (M.length : Int)) = false := by simp; omega
  clear h hi
  go_enter Try.func25, Try.ntmps25
  go_wp2_with fail
  refine HIS.out.mono ?_
  rintro e w1 ⟨rfl, rfl⟩
  rw [d0]
  clear d0
  go_wp2
  go_ret
  exact ⟨rfl, rfl⟩

/-- What is known of parcel i, cell by cell. -/
theorem ref_cells {bm : Nat} {vL : Value} {M : Pcls} {lost : Int} {w : World} {i : Nat} {x : Pcl × Value} (h : RefP w bm vL M lost) (hx : M[i]? = some x) :
    ∃ gL cL A c, vL = .slice (some ⟨gL, 0, none⟩) M.length cL ∧ x.2 = .slice A x.1.body.length c ∧ gL < w.heap.size ∧ w.cell? ⟨gL, i * 4, none⟩ = some (.int .i64 x.1.frm) ∧ w.cell? ⟨gL, i * 4 + 1, none⟩ = some (.int .i64 x.1.dst) ∧
      w.cell? ⟨gL, i * 4 + 2, none⟩ = some (.slice A x.1.body.length c) ∧ w.cell? ⟨gL, i * 4 + 3, none⟩ = some (.bool x.1.spoilt) ∧ (∀ j, w.frozen? ⟨gL, j, none⟩ = false) := by
  obtain ⟨hi, _⟩ := List.getElem?_eq_some_iff.1 hx
  obtain ⟨AL, cL, rfl⟩ := h.form
  obtain ⟨A, c, hv⟩ := own_form (h.own x (List.mem_of_getElem? hx))
  obtain ⟨gL, rfl, hc, hf, hlt, _⟩ := own_store4 h.row (k := 0) (by omega) (.bool true)
  refine ⟨gL, cL, A, c, rfl, hv, hlt, ?_, ?_, ?_, ?_, hf⟩
  · have := (hc (i * 4 + 0) (by omega)).trans (flat_get hx 0 (by omega)); simpa [Pcl.cells] using this
  · have := (hc (i * 4 + 1) (by omega)).trans (flat_get hx 1 (by omega)); simpa [Pcl.cells] using this
  · have := (hc (i * 4 + 2) (by omega)).trans (flat_get hx 2 (by omega)); simpa [Pcl.cells, hv] using this
  · have := (hc (i * 4 + 3) (by omega)).trans (flat_get hx 3 (by omega)); simpa [Pcl.cells] using this

set_option maxHeartbeats 1000000 in
theorem refSpoil_bad (i : Nat) (x : Pcl × Value) (at_ : Int) (mask : UInt8) (h : RefP w bm vL M lost) (hx : M[i]? = some x) (hb : at_ < 0 ∨ (x.1.body.length : Int) ≤ at_ ∨ mask = 0) :
    Calls Try.prog 25 #[.pointer (some ⟨bm, 0, none⟩), .int .i64 i, .int .i64 at_, .int .u8 mask.toNat] w fun e w' => e = .returned (.int .i64 1) ∧ w = w' := by
  obtain ⟨hi, _⟩ := List.getElem?_eq_some_iff.1 hx
  have hlen := h.len
  have hsm := h.small x (List.mem_of_getElem? hx)
  obtain ⟨gL, cL, A, c, rfl, hv, hlt, g0, g1, g2, g3, hf⟩ := ref_cells h hx
  have HIS := Lib.hid (is_ok bm _ M.length cL lost i w h.blk)
  have cb := h.blk.cell
  have e0 : decide (0 ≤ (i : Int) ∧ (i : Int) < (M.length : Int)) = true := by simp; omega
  clear h hx hv g0 g1 g3 hf
  by_cases h0 : at_ < 0
  · have d0 : decide (at_ < 0) = true := by simpa using h0
    go_enter Try.func25, Try.ntmps25
    go_wp2_with fail
    refine HIS.out.mono ?_
    rintro e w1 ⟨rfl, rfl⟩
    rw [e0]
    go_wp2
    go_ret
    exact ⟨rfl, rfl⟩
  · have d0 : decide (at_ < 0) = false := by simpa using h0
    by_cases h1 : (x.1.body.length : Int) ≤ at_
    · have d1 : decide ((x.1.body.length : Int) ≤ at_) = true := by simpa using h1
      go_enter Try.func25, Try.ntmps25
      go_wp2_with fail
      refine HIS.out.mono ?_
      rintro e w1 ⟨rfl, rfl⟩
      rw [e0]
      go_wp2
      go_ret
      exact ⟨rfl, rfl⟩
    · have d1 : decide ((x.1.body.length : Int) ≤ at_) = false := by simpa using h1
      have hm : mask = 0 := by rcases hb with h | h | h <;> first | exact h | omega
      subst hm
      clear hb
      go_enter Try.func25, Try.ntmps25
      go_wp2_with fail
      refine HIS.out.mono ?_
      rintro e w1 ⟨rfl, rfl⟩
      rw [e0]
      go_wp2
      go_ret
      exact ⟨rfl, rfl⟩

set_option maxHeartbeats 1000000 in
theorem refSpoil_state (i : Nat) (x : Pcl × Value) (k : Nat) (mask : UInt8) (h : RefP w bm vL M lost) (hx : M[i]? = some x) (hk : k < x.1.body.length) (hm : mask ≠ 0) (hs : x.1.spoilt = true) :
    Calls Try.prog 25 #[.pointer (some ⟨bm, 0, none⟩), .int .i64 i, .int .i64 k, .int .u8 mask.toNat] w fun e w' => e = .returned (.int .i64 161) ∧ w = w' := by
  obtain ⟨hi, _⟩ := List.getElem?_eq_some_iff.1 hx
  have hlen := h.len
  have hsm := h.small x (List.mem_of_getElem? hx)
  obtain ⟨gL, cL, A, c, rfl, hv, hlt, g0, g1, g2, g3, hf⟩ := ref_cells h hx
  rw [hs] at g3
  have HIS := Lib.hid (is_ok bm _ M.length cL lost i w h.blk)
  have cb := h.blk.cell
  have e0 : decide (0 ≤ (i : Int) ∧ (i : Int) < (M.length : Int)) = true := by simp; omega
  have d0 : decide ((k : Int) < 0) = false := by simp
  have d1 : decide ((x.1.body.length : Int) ≤ (k : Int)) = false := by simp; omega
  have d2 : ((mask.toNat : Int) == 0) = false := by
    simp
    intro h
    exact hm (UInt8.toNat_inj.1 (by simpa using h))
  clear h hx hv g0 g1 hf hs hm
  go_enter Try.func25, Try.ntmps25
  go_wp2_with fail
  refine HIS.out.mono ?_
  rintro e w1 ⟨rfl, rfl⟩
  rw [e0]
  go_wp2
  go_ret
  exact ⟨rfl, rfl⟩

/-- What Spoil leaves. -/
theorem refP_spoilt {bm gL cL g : Nat} {M : Pcls} {lost : Int} {w : World} {i k : Nat} {b : UInt8} {x : Pcl × Value} {c : Nat} (h : RefP w bm (.slice (some ⟨gL, 0, none⟩) M.length cL) M lost) (hx : M[i]? = some x) (hv : x.2 = .slice (some ⟨g, 0, none⟩) x.1.body.length c) (hk : k < x.1.body.length) :
    RefP ((w.setCell ⟨g, k, none⟩ (byteV b)).setCell ⟨gL, i * 4 + 3, none⟩ (.bool true)) bm (.slice (some ⟨gL, 0, none⟩) M.length cL) (M.set i (x.1.spoil k b, x.2)) lost ∧
      Upd (fun j => j = gL ∨ x.2.ownBlock = some j) w ((w.setCell ⟨g, k, none⟩ (byteV b)).setCell ⟨gL, i * 4 + 3, none⟩ (.bool true)) := by
  obtain ⟨hi, hxi⟩ := List.getElem?_eq_some_iff.1 hx
  have hmem : x ∈ M := List.mem_of_getElem? hx
  have h1 := h
  have u1 : Upd (· = g) w (w.setCell ⟨g, k, none⟩ (byteV b)) := (Upd.refl (· = g) _).setCell (fun _ => rfl) _
  have u2 : Upd (· = gL) (w.setCell ⟨g, k, none⟩ (byteV b)) ((w.setCell ⟨g, k, none⟩ (byteV b)).setCell ⟨gL, i * 4 + 3, none⟩ (.bool true)) := (Upd.refl (· = gL) _).setCell (fun _ => rfl) _
  have hgx : x.2.ownBlock = some g := by rw [hv]; rfl
  have hox := h1.own x hmem
  have hrow1 := own_upd h1.row u1 fun j hj he => by subst he; exact own_own_ne hox h1.row (by decide) hgx hj
  obtain ⟨gL', e, _, _, _, hrow2⟩ := own_store4 hrow1 (k := i * 4 + 3) (by omega) (.bool true)
  obtain rfl : gL = gL' := by simpa using e
  have hb1 := h1.blk.upd u1 fun he => by subst he; exact own_blk_ne hox h1.blk (by decide) hgx
  have hb2 := hb1.upd u2 fun he => by subst he; exact own_blk_ne hrow1 hb1 (by decide) rfl
  have hap := List.pairwise_iff_getElem.1 h.apart
  have far : ∀ j z, j ≠ i → M[j]? = some z → z.2.ownBlock ≠ some g := by
    intro j z hj hz hk'
    obtain ⟨hj', hzj⟩ := List.getElem?_eq_some_iff.1 hz
    rcases Nat.lt_or_gt_of_ne hj with hlt | hlt
    · have := hap j i hj' hi hlt
      rw [hzj, hxi] at this
      exact this g hk' hgx
    · have := hap i j hi hj' hlt
      rw [hzj, hxi] at this
      exact this g hgx hk'
  have hget : ∀ j z, (M.set i (x.1.spoil k b, x.2))[j]? = some z → (j = i ∧ z = (x.1.spoil k b, x.2)) ∨ (j ≠ i ∧ M[j]? = some z) := by
    intro j z hz
    rw [List.getElem?_set] at hz
    split at hz
    · rename_i e
      subst e
      exact .inl ⟨rfl, by simpa [hi] using hz.symm⟩
    · rename_i e
      exact .inr ⟨Ne.symm e, hz⟩
  have body2 : ∀ v m xs, (w.setCell ⟨g, k, none⟩ (byteV b)).ownsRow 0 5 1 v m xs → ((w.setCell ⟨g, k, none⟩ (byteV b)).setCell ⟨gL, i * 4 + 3, none⟩ (.bool true)).ownsRow 0 5 1 v m xs := fun v m xs hv' =>
    own_upd hv' u2 fun j hj he => by subst he; exact own_own_ne hrow1 hv' (by decide) rfl hj
  refine ⟨⟨hb2, by rw [flat_spoil hx, List.length_set]; exact hrow2, by simpa using h.len, ?_, ?_, ?_⟩, ?_⟩
  · intro z hz
    obtain ⟨j, hj⟩ := List.getElem?_of_mem hz
    rcases hget j z hj with ⟨rfl, rfl⟩ | ⟨hne, hz'⟩
    · refine body2 _ _ _ ?_
      rw [hv] at hox ⊢
      obtain ⟨g', e', _, _, ho'⟩ := own_store hox hk (byteV b)
      obtain rfl : g = g' := by simpa using e'
      simp only [Pcl.spoil, List.length_set]
      rw [byte_set]
      exact ho'
    · exact body2 _ _ _ (own_upd (h1.own z (List.mem_of_getElem? hz')) u1 fun q hq he => by subst he; exact far j z hne hz' hq)
  · rw [List.pairwise_iff_getElem]
    intro a b' ha hb hab q hq hq'
    have ea := hget a _ (List.getElem?_eq_getElem ha)
    have eb := hget b' _ (List.getElem?_eq_getElem hb)
    rcases ea with ⟨rfl, ea⟩ | ⟨na, ea⟩ <;> rcases eb with ⟨rfl, eb⟩ | ⟨nb, eb⟩
    · omega
    · rw [ea] at hq
      obtain rfl : g = q := by rw [hgx] at hq; simpa using hq
      exact far b' _ nb eb hq'
    · rw [eb] at hq'
      obtain rfl : g = q := by rw [hgx] at hq'; simpa using hq'
      exact far a _ na ea hq
    · obtain ⟨ha', ea'⟩ := List.getElem?_eq_some_iff.1 ea
      obtain ⟨hb', eb'⟩ := List.getElem?_eq_some_iff.1 eb
      have := hap a b' ha' hb' hab q
      rw [ea', eb'] at this
      exact this hq hq'
  · intro z hz
    obtain ⟨j, hj⟩ := List.getElem?_of_mem hz
    rcases hget j z hj with ⟨rfl, rfl⟩ | ⟨hne, hz'⟩
    · simp only [Pcl.spoil, List.length_set]; exact h.small x hmem
    · exact h.small z (List.mem_of_getElem? hz')
  · exact (((Upd.refl (fun j => j = gL ∨ x.2.ownBlock = some j) w).trans u1 fun j _ he => by subst he; exact .inr hgx).trans u2 fun j _ he => .inl he)

set_option maxHeartbeats 2000000 in
theorem refSpoil_ok (i : Nat) (x : Pcl × Value) (k : Nat) (mask b : UInt8) (h : RefP w bm vL M lost) (hx : M[i]? = some x) (hb : x.1.body[k]? = some b) (hm : mask ≠ 0) (hs : x.1.spoilt = false) :
    Calls Try.prog 25 #[.pointer (some ⟨bm, 0, none⟩), .int .i64 i, .int .i64 k, .int .u8 mask.toNat] w fun e w' => e = .returned (.int .i64 0) ∧ RefP w' bm vL (M.set i (x.1.spoil k (b ^^^ mask), x.2)) lost ∧ Upd (fun j => vL.ownBlock = some j ∨ x.2.ownBlock = some j) w w' := by
  obtain ⟨hi, _⟩ := List.getElem?_eq_some_iff.1 hx
  have hk : k < x.1.body.length := (List.getElem?_eq_some_iff.1 hb).1
  have hlen := h.len
  have hmem : x ∈ M := List.mem_of_getElem? hx
  have hsm := h.small x hmem
  have HR := Lib.hid h
  have HX := Lib.hid hx
  obtain ⟨gL, cL, A, c, rfl, hv, hlt, g0, g1, g2, g3, hf⟩ := ref_cells h hx
  rw [hs] at g3
  have hox := h.own x hmem
  have hrow := h.row
  have hne : ∀ q, x.2.ownBlock = some q → q ≠ gL := fun q hq he => by subst he; exact own_own_ne h.row hox (by decide) rfl hq
  rw [hv] at hox hne
  obtain ⟨g, rfl, hg, hgf, _⟩ := own_store hox hk (.bool true)
  have hgg : g ≠ gL := hne g rfl
  rw [bytesV_get, hb] at hg
  simp only [Option.map_some, byteV] at hg
  have HV := Lib.hid hv
  have HIS := Lib.hid (is_ok bm _ M.length cL lost i w h.blk)
  have cb := h.blk.cell
  have hbg : bm ≠ g := fun he => by subst he; exact own_blk_ne hox h.blk (by decide) rfl
  have hbL : bm ≠ gL := fun he => by subst he; exact own_blk_ne h.row h.blk (by decide) rfl
  have e0 : decide (0 ≤ (i : Int) ∧ (i : Int) < (M.length : Int)) = true := by simp; omega
  have d0 : decide ((k : Int) < 0) = false := by simp
  have d1 : decide ((x.1.body.length : Int) ≤ (k : Int)) = false := by simp; omega
  have d2 : ((mask.toNat : Int) == 0) = false := by
    simp
    intro h
    exact hm (UInt8.toNat_inj.1 (by simpa using h))
  clear h hx hv g0 g1 hs hm hb hox hne hrow
  go_enter Try.func25, Try.ntmps25
  go_wp2_with fail
  refine HIS.out.mono ?_
  rintro e w1 ⟨rfl, rfl⟩
  rw [e0]
  go_upto_region 5 with (fail)
  refine wp_region_tail 23 (by kernel_rfl) (by kernel_rfl) ?_
  simp only [List.take_succ_cons, List.take_zero, List.drop_succ_cons, List.drop_zero]
  repeat still_step
  refine wpStill_nil ?_
  go_wp2
  go_ret
  rw [xor_u8]
  obtain ⟨r1, r2⟩ := refP_spoilt (b := b ^^^ mask) HR.out HX.out HV.out hk
  refine ⟨rfl, r1.upd ((Upd.refl Nowhere _).drew) fun _ _ => id, (r2.mono fun j _ h => ?_).drew⟩
  rcases h with h | h
  · left; rw [h]; rfl
  · exact .inr h
end
end Go.Proofs.Ytnlidhclieipiaa
