/-
  The reference's net: Take, Drop.
-/
import Derived.Test.YtnlidhclieipiaaRefB
namespace Go.Proofs.Ytnlidhclieipiaa
open Go Go.RowKit

theorem flat_one {w : World} {bm : Nat} {vL : Value} {M : Pcls} {lost : Int} (h : RefP w bm vL M lost) (N : Pcls) (hN : ∀ x ∈ N, x ∈ M) : ∀ u ∈ flat N, u.oneCell' = true := by
  intro u hu
  obtain ⟨x, hx, hu⟩ := List.mem_flatMap.1 hu
  obtain ⟨A, c, hv⟩ := own_form (h.own x (hN x hx))
  simp only [Pcl.cells, hv, List.mem_cons, List.not_mem_nil, or_false] at hu
  rcases hu with rfl | rfl | rfl | rfl <;> rfl

/-- append of parcels to an owned row. -/
theorem run_append_rows (W : World) (v : Value) (n : Nat) (xs : List Value) (hrow : W.ownsRow 0 28 4 v n xs) (ad : Addr) (m c : Nat) (news : List Value) (hl : news.length = m * 4) (hcells : ∀ j u, news[j]? = some u → W.cell? (ad.add j) = some u) (h1 : ∀ u ∈ news, u.oneCell' = true) (hn : n + m ≤ 1000) :
    ∃ v' w', (Builtin.append_ #[22, 22] 22 #[v, .slice (some ad) m c]).run Try.prog W = .ok v' w' ∧
      w'.ownsRow 0 28 4 v' (n + m) (xs ++ news) ∧ Upd (fun k => v.ownBlock = some k) W w' ∧ (∀ k, v'.ownBlock = some k → v.ownBlock = some k ∨ W.heap.size ≤ k) := by
  obtain ⟨i, hi, hz, hs, hb⟩ := info_parts info_parcel
  obtain ⟨v', w', hrun, ho, hg, _, hown⟩ := run_append_own_at (P := Try.prog) W 0 22 22 28 i _ 4 48 Try.underlying22 hi hz hs hb rfl (by omega) v n xs hrow ad m c news hl hcells h1 (by simp only [maxLen]; omega) (by omega) (Nat.zero_le _)
  refine ⟨v', w', hrun, ho, (Upd.refl _ W).grown hg fun k hk _ => hk, fun k hk => ?_⟩
  rcases hown with e | e
  · rw [e] at hk; exact .inl hk
  · rw [e] at hk
    simp at hk
    right
    omega

theorem addr_add0 (b off : Nat) (n : Nat) : (⟨b, off, none⟩ : Addr).add n = ⟨b, off + n, none⟩ := by
  unfold Addr.add; split <;> simp_all
theorem flat_take (M : Pcls) (i : Nat) : (flat M).take (i * 4) = flat (M.take i) := by
  induction M generalizing i with
  | nil => simp [flat]
  | cons y M ih =>
    rcases i with _ | i
    · simp [flat]
    · have e : (i + 1) * 4 = (y.1.cells y.2).toList.length + i * 4 := by simp [Pcl.cells]; omega
      simp only [flat, List.flatMap_cons, List.take_succ_cons] at ih ⊢
      rw [e, List.take_length_add_append, ih]
theorem flat_drop (M : Pcls) (i : Nat) : (flat M).drop (i * 4) = flat (M.drop i) := by
  induction M generalizing i with
  | nil => simp [flat]
  | cons y M ih =>
    rcases i with _ | i
    · simp [flat]
    · have e : (i + 1) * 4 = (y.1.cells y.2).toList.length + i * 4 := by simp [Pcl.cells]; omega
      simp only [flat, List.flatMap_cons, List.drop_succ_cons] at ih ⊢
      rw [e, List.drop_length_add_append, ih]

/-- What Take leaves, from the two appends on. -/
theorem refP_taken {W2 w3 w5 : World} {bm gL cL : Nat} {M : Pcls} {lost : Int} {i : Nat} {Ar A5 : Option Addr} {cr c5 n5 : Nat} (hi : i < M.length) (hR : RefP w3 bm (.slice (some ⟨gL, 0, none⟩) M.length cL) M lost) (hU3 : Upd Nowhere W2 w3)
    (hk3 : ∀ k, (Value.slice Ar i cr).ownBlock = some k → (Value.slice none 0 0).ownBlock = some k ∨ W2.heap.size ≤ k)
    (hrow : w3.ownsRow 0 28 4 (.slice Ar i cr) i (flat (M.take i)))
    (hr5 : w5.ownsRow 0 28 4 (.slice A5 n5 c5) n5 (flat (M.take i) ++ flat (M.drop (i + 1)))) (hn5 : n5 = i + (M.length - (i + 1)))
    (hu5 : Upd (fun k => (Value.slice Ar i cr).ownBlock = some k) w3 w5) (hk5 : ∀ k, (Value.slice A5 n5 c5).ownBlock = some k → (Value.slice Ar i cr).ownBlock = some k ∨ w3.heap.size ≤ k) :
    RefP (w5.setCell ⟨bm, 0, none⟩ (.slice A5 n5 c5)) bm (.slice A5 n5 c5) (M.eraseIdx i) lost ∧ (∀ k, (Value.slice A5 n5 c5).ownBlock = some k → W2.heap.size ≤ k) ∧ Upd (fun k => W2.heap.size ≤ k) W2 w5 := by
  have hs := hU3.size
  have hnew : ∀ k, (Value.slice Ar i cr).ownBlock = some k → W2.heap.size ≤ k := fun k hk => by
    rcases hk3 k hk with h | h
    · simp [Value.ownBlock] at h
    · exact h
  have hb5 := hR.blk.upd hu5 (own_blk_ne hrow hR.blk (by decide))
  have hset : Upd (· = bm) w5 (w5.setCell ⟨bm, 0, none⟩ (.slice A5 n5 c5)) := (Upd.refl (· = bm) w5).setCell (fun _ => rfl) _
  have hsub : ∀ y, y ∈ M.eraseIdx i → y ∈ M := fun y hy => (List.eraseIdx_sublist M i).subset hy
  refine ⟨⟨hb5.set_ 0 _, ?_, Nat.le_trans (List.eraseIdx_sublist M i).length_le hR.len, ?_, hR.apart.sublist (List.eraseIdx_sublist M i), fun y hy => hR.small y (hsub y hy)⟩, ?_, ?_⟩
  · have e1 : flat (M.eraseIdx i) = flat (M.take i) ++ flat (M.drop (i + 1)) := by rw [List.eraseIdx_eq_take_drop_succ, flat_append]
    have e2 : (M.eraseIdx i).length = n5 := by rw [List.length_eraseIdx, if_pos hi, hn5]; omega
    rw [e1, e2]
    exact own_upd hr5 hset fun k hk he => by subst he; exact own_blk_ne hr5 hb5 (by decide) hk
  · intro y hy
    have h5 := own_upd (hR.own y (hsub y hy)) hu5 fun k hk => own_own_ne (hR.own y (hsub y hy)) hrow (by decide) hk
    exact own_upd h5 hset fun k hk he => by subst he; exact own_blk_ne h5 hb5 (by decide) hk
  · intro k hk
    rcases hk5 k hk with h | h
    · exact hnew k h
    · omega
  · exact (hU3.mono fun _ _ h => h.elim).trans hu5 fun k _ h => hnew k h

set_option maxHeartbeats 4000000 in
theorem refTake_ok (bm : Nat) (vL : Value) (M : Pcls) (lost : Int) (w : World) (i : Nat) (x : Pcl × Value) (h : RefP w bm vL M lost) (hx : M[i]? = some x) :
    Calls Try.prog 20 #[.pointer (some ⟨bm, 0, none⟩), .int .i64 i] w fun e w' => ∃ v' vL', e = .returned (.tuple #[x.1.val v', .int .i64 0]) ∧ RefP w' bm vL' (M.eraseIdx i) lost ∧ w'.ownsRow w.heap.size 5 1 v' x.1.body.length (bytesV x.1.body) ∧
      (∀ k, vL'.ownBlock = some k → w.heap.size ≤ k) ∧ Upd (· = bm) w w' := by
  obtain ⟨hi, _⟩ := List.getElem?_eq_some_iff.1 hx
  have hlen := h.len
  obtain ⟨AL, cL, rfl⟩ := h.form
  have hR1 := h.upd ((Upd.refl Nowhere w).alloc (.cells #[.int .i64 0, .int .i64 0, .slice none 0 0, .bool false] 28)) fun _ _ => id
  obtain ⟨gL, cap, hvL, _⟩ := hR1.row.form (by omega)
  injection hvL with e1 e2 e3
  subst e1 e3
  have HL := Lib.hid (refLook_ok bm _ M lost _ i x hR1 hx)
  have HR := Lib.hid h
  have hmem : x ∈ M := List.mem_of_getElem? hx
  have HX := Lib.hid hx
  have hcap : M.length ≤ cL := by
    rcases h.row.2 with ⟨e, _⟩ | ⟨_, _, _, e, _, _, hc, _⟩
    · cases e
    · injection e with _ _ e
      omega
  have hcm : cL ≤ 9223372036854775807 := by
    rcases h.row.2 with ⟨e, _⟩ | ⟨_, _, _, e, _, _, _, hc, _⟩
    · cases e
    · injection e with _ _ e
      unfold maxLen at hc
      omega
  clear h hx hR1
  go_enter Try.func20, Try.ntmps20
  go_wp2_with fail
  refine HL.out.mono ?_
  rintro e w1 ⟨v1, rfl, ho1, hu1⟩
  obtain ⟨A1, c1, hv1⟩ := own_form ho1
  subst hv1
  have hb0 := (Blk.new w 28 #[.int .i64 0, .int .i64 0, .slice none 0 0, .bool false]).upd hu1 id
  have hsw := hu1.size
  simp only [World.size_alloc] at hsw
  unfold Pcl.val Pcl.cells
  go_upto_region 5 with (fail)
  obtain ⟨W2, hW2⟩ : ∃ W2, W2 = w1.alloc (.cells #[.int .i64 x.1.frm, .int .i64 x.1.dst, .slice A1 x.1.body.length c1, .bool x.1.spoilt] 28) := ⟨_, rfl⟩
  rw [← hW2]
  have hU2 : Upd Nowhere w W2 := by rw [hW2]; exact (((Upd.refl Nowhere w).alloc _).trans hu1 fun _ _ => id).alloc _
  have hb2 : Blk W2 w.heap.size 28 #[.int .i64 0, .int .i64 0, .slice none 0 0, .bool false] := by rw [hW2]; exact hb0.alloc _
  have hp2 : Blk W2 w1.heap.size 28 #[.int .i64 x.1.frm, .int .i64 x.1.dst, .slice A1 x.1.body.length c1, .bool x.1.spoilt] := by rw [hW2]; exact Blk.new _ _ _
  have ho2 : W2.ownsRow (w.heap.size + 1) 5 1 (.slice A1 x.1.body.length c1) x.1.body.length (bytesV x.1.body) := by
    rw [hW2]
    have := ho1.alloc (.cells #[.int .i64 x.1.frm, .int .i64 x.1.dst, .slice A1 x.1.body.length c1, .bool x.1.spoilt] 28)
    simpa using this
  have hR2 := HR.out.upd hU2 fun _ _ => id
  clear hW2 hb0 ho1 hu1 HL
  -- rest = append(rest, n.L[:i]...)
  have hflat : ∀ j u, (flat M)[j]? = some u → W2.cell? ((⟨gL, 0, none⟩ : Addr).add j) = some u := hR2.row.cells (g := gL) rfl
  obtain ⟨r1, w3, hrun1, hr1, hu3, hk3⟩ := run_append_rows W2 (.slice none 0 0) 0 [] (World.ownsRow_nil _ _ _ _) ⟨gL, 0, none⟩ i cL (flat (M.take i)) (by rw [flat_length]; simp; omega) (fun j u hj => hflat j u (by
    rw [← flat_take] at hj
    rw [List.getElem?_take] at hj
    split at hj
    · exact hj
    · cases hj)) (flat_one hR2 _ fun y hy => List.mem_of_mem_take hy) (by omega)
  have hU3 : Upd Nowhere W2 w3 := hu3.mono fun _ _ h => by simp [Value.ownBlock] at h
  simp only [Nat.zero_add, List.nil_append] at hr1
  obtain ⟨Ar, cr, hvr⟩ := own_form hr1
  subst hvr
  have HB2 := Lib.hid hb2
  have HP2 := Lib.hid hp2
  have HO2 := Lib.hid ho2
  have HR2 := Lib.hid hR2
  have HRow1 := Lib.hid hr1
  have HU2 := Lib.hid hU2
  have HU3 := Lib.hid hU3
  have HK3 := Lib.hid hk3
  have cb := hR2.blk.cell
  have cb3 := (hR2.blk.upd hU3 id).cell
  have hR3 := hR2.upd hU3 fun _ _ => id
  have HR3 := Lib.hid hR3
  clear hb2 hp2 ho2 hR2 hr1 hU2 hU3 hu3 hk3 hflat hR3
  go_upto_region 6 with (at_builtin; refine wpList_append_run rfl _ _ _ rfl rfl rfl hrun1 ?_)
  clear hrun1
  have hflat3 : ∀ j u, (flat M)[j]? = some u → w3.cell? ((⟨gL, 0, none⟩ : Addr).add j) = some u := HR3.out.row.cells (g := gL) rfl
  have hlenD : (flat (M.drop (i + 1))).length = (M.length - (i + 1)) * 4 := by rw [flat_length]; simp
  have HLD := Lib.hid hlenD
  have HF3 := Lib.hid hflat3
  have hgb : bm ≠ w.heap.size := fun he => absurd (HR.out.blk.lt) (by omega)
  have hgb1 : bm ≠ w1.heap.size := fun he => absurd (HR.out.blk.lt) (by omega)
  have hbw1 : w.heap.size ≠ w1.heap.size := by omega
  clear hflat3 hlenD
  have fin : ∀ (ad : Addr) (cc : Nat), (∀ j u, (flat (M.drop (i + 1)))[j]? = some u → w3.cell? (ad.add j) = some u) → ∃ A5 c5 w5, (Builtin.append_ #[22, 22] 22 #[.slice Ar i cr, .slice (some ad) (M.length - (i + 1)) cc]).run Try.prog w3 = .ok (.slice A5 (i + (M.length - (i + 1))) c5) w5 ∧
      RefP (w5.setCell ⟨bm, 0, none⟩ (.slice A5 (i + (M.length - (i + 1))) c5)) bm (.slice A5 (i + (M.length - (i + 1))) c5) (M.eraseIdx i) lost ∧ (∀ k, (Value.slice A5 (i + (M.length - (i + 1))) c5).ownBlock = some k → W2.heap.size ≤ k) ∧ Upd (fun k => W2.heap.size ≤ k) W2 w5 := by
    intro ad cc had
    obtain ⟨v5, w5, hrun, hr5, hu5, hk5⟩ := run_append_rows w3 (.slice Ar i cr) i (flat (M.take i)) HRow1.out ad (M.length - (i + 1)) cc (flat (M.drop (i + 1))) HLD.out had (flat_one HR3.out _ fun y hy => List.mem_of_mem_drop hy) (by omega)
    obtain ⟨A5, c5, hv5⟩ := own_form hr5
    subst hv5
    obtain ⟨f1, f2, f3⟩ := refP_taken hi HR3.out HU3.out HK3.out HRow1.out hr5 rfl hu5 hk5
    exact ⟨A5, c5, w5, hrun, f1, f2, f3⟩
  have hgo : ∃ A5 c5 w5, (Builtin.append_ #[22, 22] 22 #[.slice Ar i cr, (if cL = i + 1 then .slice (some ⟨gL, 0, none⟩) (M.length - (i + 1)) 0 else .slice (some ⟨gL, (i + 1) * 4, none⟩) (M.length - (i + 1)) (cL - (i + 1)))]).run Try.prog w3 = .ok (.slice A5 (i + (M.length - (i + 1))) c5) w5 ∧
      RefP (w5.setCell ⟨bm, 0, none⟩ (.slice A5 (i + (M.length - (i + 1))) c5)) bm (.slice A5 (i + (M.length - (i + 1))) c5) (M.eraseIdx i) lost ∧ (∀ k, (Value.slice A5 (i + (M.length - (i + 1))) c5).ownBlock = some k → W2.heap.size ≤ k) ∧ Upd (fun k => W2.heap.size ≤ k) W2 w5 := by
    by_cases hcl : cL = i + 1
    · rw [if_pos hcl]
      refine fin _ _ fun j u hj => ?_
      have := (List.getElem?_eq_some_iff.1 hj).1
      rw [HLD.out] at this
      omega
    · rw [if_neg hcl]
      refine fin _ _ fun j u hj => ?_
      rw [← flat_drop, List.getElem?_drop] at hj
      have := HF3.out _ u hj
      rw [addr_add0] at this ⊢
      simpa using this
  obtain ⟨A5, c5, w5, hrun2, hR5, hk5, hu5⟩ := hgo
  have hs2 : w1.heap.size < W2.heap.size := HP2.out.lt
  have c5b := (HB2.out.upd hu5 (by omega)).cell
  have f5b := (HB2.out.upd hu5 (by omega)).frozen
  have c5p := (HP2.out.upd hu5 (by omega)).cell
  have hbm := HR.out.blk.lt
  have hsW := HU2.out.size
  have hbm5 := (HR3.out.blk.upd (F := fun k => W2.heap.size ≤ k ∧ False) (w' := w3) (Upd.refl _ _) (by simp))
  have HR5 := Lib.hid hR5
  have HK5 := Lib.hid hk5
  have HU5 := Lib.hid hu5
  have cbm : w5.cell? ⟨bm, 0, none⟩ = some (.slice (some ⟨gL, 0, none⟩) M.length cL) := by
    rw [((HR2.out.blk).upd hu5 (by omega)).cell 0]; rfl
  have fbm : w5.frozen? ⟨bm, 0, none⟩ = false := ((HR2.out.blk).upd hu5 (by omega)).frozen 0
  clear hR5 hk5 hu5 fin hbm5
  have tail : ∀ n5, n5 = i + (M.length - (i + 1)) → RefP (w5.setCell ⟨bm, 0, none⟩ (.slice A5 n5 c5)) bm (.slice A5 n5 c5) (M.eraseIdx i) lost ∧ (∀ k, (Value.slice A5 n5 c5).ownBlock = some k → W2.heap.size ≤ k) := by
    rintro n5 rfl
    exact ⟨HR5.out, HK5.out⟩
  have close : ∀ n5, n5 = i + (M.length - (i + 1)) →
      RefP (((((w5.setCell ⟨bm, 0, none⟩ (.slice A5 n5 c5)).setCell ⟨w.heap.size, 0, none⟩ (.int .i64 x.1.frm)).setCell ⟨w.heap.size, 1, none⟩ (.int .i64 x.1.dst)).setCell ⟨w.heap.size, 2, none⟩ (.slice A1 x.1.body.length c1)).setCell ⟨w.heap.size, 3, none⟩ (.bool x.1.spoilt)) bm (.slice A5 n5 c5) (M.eraseIdx i) lost ∧
      (((((w5.setCell ⟨bm, 0, none⟩ (.slice A5 n5 c5)).setCell ⟨w.heap.size, 0, none⟩ (.int .i64 x.1.frm)).setCell ⟨w.heap.size, 1, none⟩ (.int .i64 x.1.dst)).setCell ⟨w.heap.size, 2, none⟩ (.slice A1 x.1.body.length c1)).setCell ⟨w.heap.size, 3, none⟩ (.bool x.1.spoilt)).ownsRow w.heap.size 5 1 (.slice A1 x.1.body.length c1) x.1.body.length (bytesV x.1.body) ∧
      (∀ k, (Value.slice A5 n5 c5).ownBlock = some k → w.heap.size ≤ k) ∧
      Upd (· = bm) w (((((w5.setCell ⟨bm, 0, none⟩ (.slice A5 n5 c5)).setCell ⟨w.heap.size, 0, none⟩ (.int .i64 x.1.frm)).setCell ⟨w.heap.size, 1, none⟩ (.int .i64 x.1.dst)).setCell ⟨w.heap.size, 2, none⟩ (.slice A1 x.1.body.length c1)).setCell ⟨w.heap.size, 3, none⟩ (.bool x.1.spoilt)) := by
    rintro n5 h5
    obtain ⟨hR5, hk5⟩ := tail n5 h5
    have hU : Upd (· = w.heap.size) (w5.setCell ⟨bm, 0, none⟩ (.slice A5 n5 c5)) (((((w5.setCell ⟨bm, 0, none⟩ (.slice A5 n5 c5)).setCell ⟨w.heap.size, 0, none⟩ (.int .i64 x.1.frm)).setCell ⟨w.heap.size, 1, none⟩ (.int .i64 x.1.dst)).setCell ⟨w.heap.size, 2, none⟩ (.slice A1 x.1.body.length c1)).setCell ⟨w.heap.size, 3, none⟩ (.bool x.1.spoilt)) :=
      ((((Upd.refl (· = w.heap.size) _).setCell (fun _ => rfl) _).setCell (fun _ => rfl) _).setCell (fun _ => rfl) _).setCell (fun _ => rfl) _
    have hset : Upd (· = bm) w5 (w5.setCell ⟨bm, 0, none⟩ (.slice A5 n5 c5)) := (Upd.refl (· = bm) w5).setCell (fun _ => rfl) _
    refine ⟨hR5.upd hU fun k hk he => ?_, ?_, fun k hk => ?_, ?_⟩
    · subst he
      rcases hk with h | h | ⟨y, hy, h⟩
      · omega
      · have := hk5 _ h; omega
      · have := own_lt (HR.out.own y ((List.eraseIdx_sublist M i).subset hy)) h
        omega
    · have h5' := own_upd (own_upd HO2.out HU5.out fun k hk he => by have := own_lt HO2.out hk; omega) hset fun k hk he => by have := (HO2.out.lt k hk).1; omega
      refine own_base (own_upd h5' hU fun k hk he => ?_) _ fun k hk => ?_
      · have := (HO2.out.lt k hk).1; omega
      · have := (HO2.out.lt k hk).1; omega
    · have := hk5 k hk; omega
    · exact (((HU2.out.mono fun _ _ h => h.elim).trans HU5.out fun k hk h => by omega).trans hset fun _ _ h => h).trans hU fun k hk h => by omega
  have HT := Lib.hid tail
  have HCL := Lib.hid close
  clear tail HR5 HK5 close
  by_cases hcl : cL = i + 1
  · subst hcl
    rw [if_pos rfl] at hrun2
    have e0 : M.length - (i + 1) = 0 := by omega
    rw [e0, Nat.add_zero] at hrun2
    clear e0 HT HLD
    go_wp2_with (at_builtin; refine wpList_append_run rfl _ _ _ rfl rfl rfl hrun2 ?_)
    obtain ⟨q1, q2, q3, q4⟩ := HCL.out i (by omega)
    exact bodyPost_ret (v := .tuple #[.agg #[.int .i64 x.1.frm, .int .i64 x.1.dst, .slice A1 x.1.body.length c1, .bool x.1.spoilt], .int .i64 0]) (by simp [results, Try.results20, go_sem, c5b]) rfl ⟨_, _, rfl, q1, q2, q3, q4⟩
  · rw [if_neg hcl] at hrun2
    clear HT HLD
    go_wp2_with (at_builtin; refine wpList_append_run rfl _ _ _ rfl rfl rfl hrun2 ?_)
    obtain ⟨q1, q2, q3, q4⟩ := HCL.out _ rfl
    exact bodyPost_ret (v := .tuple #[.agg #[.int .i64 x.1.frm, .int .i64 x.1.dst, .slice A1 x.1.body.length c1, .bool x.1.spoilt], .int .i64 0]) (by simp [results, Try.results20, go_sem, c5b]) rfl ⟨_, _, rfl, q1, q2, q3, q4⟩

section
variable (bm : Nat) (vL : Value) (M : Pcls) (lost : Int) (w : World)
set_option maxHeartbeats 1000000 in
theorem refTake_bad (i : Int) (h : RefP w bm vL M lost) (hi : i < 0 ∨ (M.length : Int) ≤ i) :
    Calls Try.prog 20 #[.pointer (some ⟨bm, 0, none⟩), .int .i64 i] w fun e w' => e = .returned (.tuple #[.agg zeroPcl, .int .i64 1]) ∧ Upd Nowhere w w' := by
  have HL := Lib.hid (refLook_bad bm vL M lost _ i (h.upd ((Upd.refl Nowhere w).alloc (.cells #[.int .i64 0, .int .i64 0, .slice none 0 0, .bool false] 28)) fun _ _ => id) hi)
  clear h hi
  go_enter Try.func20, Try.ntmps20
  go_wp2_with fail
  refine HL.out.mono ?_
  rintro e w1 ⟨rfl, hu1⟩
  have hb1 := (Blk.new w 28 #[.int .i64 0, .int .i64 0, .slice none 0 0, .bool false]).upd hu1 id
  have cb := hb1.cell
  have fb := hb1.frozen
  have hl := hb1.lt
  have HU := Lib.hid hu1
  clear hu1 hb1
  unfold zeroPcl
  go_wp2
  refine bodyPost_ret (v := .tuple #[.agg #[.int .i64 0, .int .i64 0, .slice none 0 0, .bool false], .int .i64 1]) (by simp [results, Try.results20, go_sem, cb, hl]) rfl ⟨rfl, ?_⟩
  have hU0 : Upd Nowhere w w1 := ((Upd.refl Nowhere w).alloc _).trans HU.out fun _ _ => id
  exact ((((hU0.setCell (fun h => absurd h (Nat.lt_irrefl _)) _).setCell (fun h => absurd h (Nat.lt_irrefl _)) _).setCell (fun h => absurd h (Nat.lt_irrefl _)) _).setCell (fun h => absurd h (Nat.lt_irrefl _)) _).alloc _
set_option maxHeartbeats 1000000 in
theorem refDrop_bad (i : Int) (h : RefP w bm vL M lost) (hi : i < 0 ∨ (M.length : Int) ≤ i) : Calls Try.prog 22 #[.pointer (some ⟨bm, 0, none⟩), .int .i64 i] w fun e w' => e = .returned (.int .i64 1) ∧ Upd Nowhere w w' := by
  have HT := Lib.hid (refTake_bad bm vL M lost w i h hi)
  clear hi h
  go_enter Try.func22, Try.ntmps22
  go_wp2_with fail
  refine HT.out.mono ?_
  rintro e w1 ⟨rfl, hu⟩
  unfold zeroPcl
  go_wp2
  go_ret
  exact ⟨rfl, hu.alloc _⟩
set_option maxHeartbeats 1000000 in
theorem refDrop_ok (i : Nat) (x : Pcl × Value) (h : RefP w bm vL M lost) (hx : M[i]? = some x) (h0 : 0 ≤ lost) (h9 : lost ≤ 9223372036854775806) :
    Calls Try.prog 22 #[.pointer (some ⟨bm, 0, none⟩), .int .i64 i] w fun e w' => ∃ vL', e = .returned (.int .i64 0) ∧ RefP w' bm vL' (M.eraseIdx i) (lost + 1) ∧ (∀ k, vL'.ownBlock = some k → w.heap.size ≤ k) ∧ Upd (· = bm) w w' := by
  have HT := Lib.hid (refTake_ok bm vL M lost w i x h hx)
  have hbm := h.blk.lt
  clear hx h
  go_enter Try.func22, Try.ntmps22
  go_wp2_with fail
  refine HT.out.mono ?_
  rintro e w1 ⟨v', vL', rfl, hn, ho, hk, hu⟩
  obtain ⟨A, k, hv⟩ := own_form ho
  subst hv
  obtain ⟨AL, cL, rfl⟩ := hn.form
  unfold Pcl.val Pcl.cells
  have hsz := hu.size
  have cb := hn.blk.cell
  have fb := hn.blk.frozen
  have hlt := hn.blk.lt
  have HN := Lib.hid hn
  have HU := Lib.hid hu
  have HK := Lib.hid hk
  clear hn ho hu hk HT
  go_wp2
  go_ret
  exact ⟨_, rfl, (HN.out.lostTo _).upd ((Upd.refl Nowhere _).alloc _) fun _ _ => id, HK.out, (HU.out.setCell (fun _ => rfl) _).alloc _⟩
end
end Go.Proofs.Ytnlidhclieipiaa
