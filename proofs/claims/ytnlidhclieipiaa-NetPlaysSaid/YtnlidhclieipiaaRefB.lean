/-
  The reference's net: Send where it is full or the body too long; Look, Twice.
-/
import Derived.Test.YtnlidhclieipiaaRefA
namespace Go.Proofs.Ytnlidhclieipiaa
open Go Go.RowKit

theorem RefP.lostTo {w : World} {bm : Nat} {vL : Value} {M : Pcls} {lost : Int} (h : RefP w bm vL M lost) (n : Int) : RefP (w.setCell ⟨bm, 1, none⟩ (.int .i64 n)) bm vL M n := by
  have hu : Upd (· = bm) w (w.setCell ⟨bm, 1, none⟩ (.int .i64 n)) := (Upd.refl (· = bm) w).setCell (fun _ => rfl) _
  exact ⟨h.blk.set_ 1 _, own_upd h.row hu fun k hk he => by subst he; exact own_blk_ne h.row h.blk (by decide) hk, h.len, fun x hx => own_upd (h.own x hx) hu fun k hk he => by subst he; exact own_blk_ne (h.own x hx) h.blk (by decide) hk, h.apart, h.small⟩

section
variable (bm : Nat) (vL : Value) (M : Pcls) (lost : Int) (w : World)
set_option maxHeartbeats 1000000 in
theorem refSend_full (p : Pcl) (v : Value) (h : RefP w bm vL M lost) (hv : Reads w 1 v p.body.length (bytesV p.body)) (hl : p.body.length ≤ 4096) (hroom : M.length = 256) (h0 : 0 ≤ lost) (h9 : lost ≤ 9223372036854775806) :
    Calls Try.prog 17 #[.pointer (some ⟨bm, 0, none⟩), .agg #[.int .i64 p.frm, .int .i64 p.dst, v, .bool p.spoilt]] w fun e w' => e = .returned (.int .i64 162) ∧ RefP w' bm vL M (lost + 1) ∧ Upd (· = bm) w w' := by
  obtain ⟨A, c, rfl, _⟩ := hv.val
  obtain ⟨AL, cL, rfl⟩ := h.form
  have HR := Lib.hid (h.upd ((Upd.refl Nowhere w).alloc (.cells #[.int .i64 p.frm, .int .i64 p.dst, .slice A p.body.length c, .bool p.spoilt] 28)) fun _ _ => id)
  have cb := HR.out.blk.cell
  have fb := HR.out.blk.frozen
  have hlt := h.blk.lt
  have d1 : decide (4096 < (p.body.length : Int)) = false := by simp; omega
  have d2 : decide (256 ≤ (M.length : Int)) = true := by simp; omega
  have HR0 := Lib.hid h
  clear h hv hroom
  go_enter Try.func17, Try.ntmps17
  go_wp2
  go_ret
  exact ⟨rfl, (HR0.out.lostTo _).upd ((Upd.refl Nowhere _).alloc _) fun _ _ => id, ((Upd.refl (· = bm) w).setCell (fun _ => rfl) _).alloc _⟩
set_option maxHeartbeats 1000000 in
theorem refLook_ok (i : Nat) (x : Pcl × Value) (h : RefP w bm vL M lost) (hx : M[i]? = some x) :
    Calls Try.prog 19 #[.pointer (some ⟨bm, 0, none⟩), .int .i64 i] w fun e w' => ∃ v', e = .returned (.tuple #[x.1.val v', .int .i64 0]) ∧ w'.ownsRow w.heap.size 5 1 v' x.1.body.length (bytesV x.1.body) ∧ Upd Nowhere w w' := by
  obtain ⟨hi, _⟩ := List.getElem?_eq_some_iff.1 hx
  have hlen := h.len
  obtain ⟨AL, cL, rfl⟩ := h.form
  have hmem : x ∈ M := List.mem_of_getElem? hx
  have hR1 := h.upd ((Upd.refl Nowhere w).alloc (.cells #[.int .i64 0, .int .i64 0, .slice none 0 0, .bool false] 28)) fun _ _ => id
  obtain ⟨gL, cap, hvL, _⟩ := hR1.row.form (by omega)
  injection hvL with e1 e2 e3
  subst e1 e3
  have hcells : ∀ j, j < 4 → (w.alloc (.cells #[.int .i64 0, .int .i64 0, .slice none 0 0, .bool false] 28)).cell? ⟨gL, i * 4 + j, none⟩ = (x.1.cells x.2)[j]? := fun j hj => by
    rw [hR1.row.cellAt (i * 4 + j) (by omega), flat_get hx j hj]
  obtain ⟨A2, c2, hv2⟩ := own_form (h.own x hmem)
  have g0 := hcells 0 (by omega)
  have g1 := hcells 1 (by omega)
  have g2 := hcells 2 (by omega)
  have g3 := hcells 3 (by omega)
  rw [hv2] at g0 g1 g2 g3
  simp only [Pcl.cells, Nat.add_zero] at g0 g1 g2 g3
  have cb := hR1.blk.cell
  have hlt := h.blk.lt
  have hltL := own_lt hR1.row (k := gL) rfl
  have HO := Lib.hid ((Reads.of_own (h.own x hmem)).alloc (.cells #[.int .i64 0, .int .i64 0, .slice none 0 0, .bool false] 28))
  have hsm := h.small x hmem
  have HIS := Lib.hid (is_ok bm (some ⟨gL, 0, none⟩) M.length cL lost i _ hR1.blk)
  rw [hv2] at HO
  clear h hx hR1 hcells hv2
  go_enter Try.func19, Try.ntmps19
  go_wp2_with fail
  refine HIS.out.mono ?_
  rintro e w1 ⟨rfl, rfl⟩
  rw [show decide (0 ≤ (i : Int) ∧ (i : Int) < (M.length : Int)) = true by simp; omega]
  go_wp2_with fail
  refine (copy_ok _ _ _ _ _ _ _ HO.out (bytesV_one _) (by omega)).mono ?_
  rintro e w1 ⟨v1, rfl, ho1, hu1⟩
  obtain ⟨A1, c1, hv1⟩ := own_form ho1
  subst hv1
  have hb1 := (Blk.new w 28 #[.int .i64 0, .int .i64 0, .slice none 0 0, .bool false]).upd hu1 id
  have cr := hb1.cell
  have fr := hb1.frozen
  have HO1 := Lib.hid ho1
  have HU1 := Lib.hid hu1
  clear ho1 hu1 hb1 cb g0 g1 g2 g3
  go_wp2
  have hU : Upd (· = w.heap.size) w1 ((((w1.setCell ⟨w.heap.size, 0, none⟩ (.int .i64 x.1.frm)).setCell ⟨w.heap.size, 1, none⟩ (.int .i64 x.1.dst)).setCell ⟨w.heap.size, 2, none⟩ (.slice A1 x.1.body.length c1)).setCell ⟨w.heap.size, 3, none⟩ (.bool x.1.spoilt)) :=
    ((((Upd.refl (· = w.heap.size) w1).setCell (fun _ => rfl) _).setCell (fun _ => rfl) _).setCell (fun _ => rfl) _).setCell (fun _ => rfl) _
  refine bodyPost_ret (v := .tuple #[.agg #[.int .i64 x.1.frm, .int .i64 x.1.dst, .slice A1 x.1.body.length c1, .bool x.1.spoilt], .int .i64 0]) (by simp [results, Try.results19, go_sem, cr]) rfl ⟨_, rfl, ?_, ?_⟩
  · refine own_base (own_upd HO1.out hU fun k hk he => ?_) _ fun k hk => ?_
    · have := (HO1.out.lt k hk).1; simp at this; omega
    · have := (HO1.out.lt k hk).1; simp at this; omega
  · exact (((Upd.refl Nowhere w).alloc _).trans HU1.out fun _ _ => id).trans hU fun k hk h => by omega
set_option maxHeartbeats 1000000 in
theorem refLook_bad (i : Int) (h : RefP w bm vL M lost) (hi : i < 0 ∨ (M.length : Int) ≤ i) :
    Calls Try.prog 19 #[.pointer (some ⟨bm, 0, none⟩), .int .i64 i] w fun e w' => e = .returned (.tuple #[.agg zeroPcl, .int .i64 1]) ∧ Upd Nowhere w w' := by
  obtain ⟨AL, cL, rfl⟩ := h.form
  have hR1 := h.upd ((Upd.refl Nowhere w).alloc (.cells #[.int .i64 0, .int .i64 0, .slice none 0 0, .bool false] 28)) fun _ _ => id
  have HIS := Lib.hid (is_ok bm AL M.length cL lost i _ hR1.blk)
  have d0 : decide (0 ≤ i ∧ i < (M.length : Int)) = false := by simp; omega
  clear h hR1 hi
  go_enter Try.func19, Try.ntmps19
  go_wp2_with fail
  refine HIS.out.mono ?_
  rintro e w1 ⟨rfl, rfl⟩
  rw [d0]
  clear d0
  go_wp2
  refine bodyPost_ret (v := .tuple #[.agg #[.int .i64 0, .int .i64 0, .slice none 0 0, .bool false], .int .i64 1]) (by simp [results, Try.results19, go_sem]) rfl ⟨rfl, ?_⟩
  exact (Upd.refl _ _).alloc _
set_option maxHeartbeats 1000000 in
theorem refTwice_bad (i : Int) (h : RefP w bm vL M lost) (hi : i < 0 ∨ (M.length : Int) ≤ i) : Calls Try.prog 23 #[.pointer (some ⟨bm, 0, none⟩), .int .i64 i] w fun e w' => e = .returned (.int .i64 1) ∧ Upd Nowhere w w' := by
  have HT := Lib.hid (refLook_bad bm vL M lost w i h hi)
  clear hi h
  go_enter Try.func23, Try.ntmps23
  go_wp2_with fail
  refine HT.out.mono ?_
  rintro e w1 ⟨rfl, hu⟩
  unfold zeroPcl
  go_wp2
  go_ret
  exact ⟨rfl, hu.alloc _⟩
set_option maxHeartbeats 1000000 in
theorem refTwice_ok (i : Nat) (x : Pcl × Value) (h : RefP w bm vL M lost) (hx : M[i]? = some x) (hroom : M.length < 256) :
    Calls Try.prog 23 #[.pointer (some ⟨bm, 0, none⟩), .int .i64 i] w fun e w' => ∃ vL' v', e = .returned (.int .i64 0) ∧ RefP w' bm vL' (M ++ [(x.1, v')]) lost ∧
      (∀ k, v'.ownBlock = some k → w.heap.size ≤ k) ∧ (∀ k, vL'.ownBlock = some k → vL.ownBlock = some k ∨ w.heap.size ≤ k) ∧ Upd (fun k => k = bm ∨ vL.ownBlock = some k) w w' := by
  have HT := Lib.hid (refLook_ok bm vL M lost w i x h hx)
  have HR := Lib.hid h
  have hsm := h.small x (List.mem_of_getElem? hx)
  clear hx h
  go_enter Try.func23, Try.ntmps23
  go_wp2_with fail
  refine HT.out.mono ?_
  rintro e w1 ⟨v, rfl, ho, hu⟩
  obtain ⟨A, k, hv⟩ := own_form ho
  subst hv
  have hU := hu.alloc (.cells #[.int .i64 x.1.frm, .int .i64 x.1.dst, .slice A x.1.body.length k, .bool x.1.spoilt] 28)
  have HS := Lib.hid (refSend_ok bm vL M lost x.1 _ _ (HR.out.upd hU fun _ _ => id) ((Reads.of_own ho).alloc _) hsm hroom)
  have hsz := hu.size
  have HU := Lib.hid hU
  unfold Pcl.val Pcl.cells
  clear hU ho hu HT
  go_wp2_with fail
  refine HS.out.mono ?_
  rintro e w2 ⟨vL', v', rfl, hn, hk, hkL, hu⟩
  have HN := Lib.hid hn
  have HK := Lib.hid hk
  have HKL := Lib.hid hkL
  have HU2 := Lib.hid hu
  clear hn hk hkL hu HS
  go_wp2
  go_ret
  refine ⟨vL', v', rfl, HN.out, fun k hk => ?_, fun k hk => ?_, (HU.out.mono fun _ _ h => h.elim).trans HU2.out fun _ _ h => h⟩
  · have := HK.out k hk
    simp at this
    omega
  · rcases HKL.out k hk with h | h
    · exact .inl h
    · simp at h
      right
      omega
set_option maxHeartbeats 1000000 in
theorem refTwice_full (i : Nat) (x : Pcl × Value) (h : RefP w bm vL M lost) (hx : M[i]? = some x) (hroom : M.length = 256) (h0 : 0 ≤ lost) (h9 : lost ≤ 9223372036854775806) :
    Calls Try.prog 23 #[.pointer (some ⟨bm, 0, none⟩), .int .i64 i] w fun e w' => e = .returned (.int .i64 162) ∧ RefP w' bm vL M (lost + 1) ∧ Upd (· = bm) w w' := by
  have HT := Lib.hid (refLook_ok bm vL M lost w i x h hx)
  have HR := Lib.hid h
  have hsm := h.small x (List.mem_of_getElem? hx)
  have HRO := Lib.hid hroom
  clear hx h hroom
  go_enter Try.func23, Try.ntmps23
  go_wp2_with fail
  refine HT.out.mono ?_
  rintro e w1 ⟨v, rfl, ho, hu⟩
  obtain ⟨A, k, hv⟩ := own_form ho
  subst hv
  have hU := hu.alloc (.cells #[.int .i64 x.1.frm, .int .i64 x.1.dst, .slice A x.1.body.length k, .bool x.1.spoilt] 28)
  have HS := Lib.hid (refSend_full bm vL M lost _ x.1 _ (HR.out.upd hU fun _ _ => id) ((Reads.of_own ho).alloc _) hsm HRO.out h0 h9)
  have hsz := hu.size
  have HU := Lib.hid hU
  unfold Pcl.val Pcl.cells
  clear hU ho hu HT
  go_wp2_with fail
  refine HS.out.mono ?_
  rintro e w2 ⟨rfl, hn, hu⟩
  have HN := Lib.hid hn
  have HU2 := Lib.hid hu
  clear hn hu HS
  go_wp2
  go_ret
  exact ⟨rfl, HN.out, (HU.out.mono fun _ _ h => h.elim).trans HU2.out fun _ _ h => h⟩
end
end Go.Proofs.Ytnlidhclieipiaa
