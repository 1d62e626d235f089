/-
  The reference's net: Send, is, Look.
-/
import Derived.Test.YtnlidhclieipiaaNetT
import Derived.Deep.RegionLaw
namespace Go.Proofs.Ytnlidhclieipiaa
open Go Go.RowKit

/-- The cells of a row of parcels. -/
def flat (M : Pcls) : List Value := M.flatMap fun x => (x.1.cells x.2).toList
theorem flat_length (M : Pcls) : (flat M).length = M.length * 4 := by
  induction M with
  | nil => rfl
  | cons x M ih => simp only [flat, List.flatMap_cons, List.length_append, List.length_cons] at ih ⊢; rw [ih]; simp [Pcl.cells]; omega
theorem flat_append (M N : Pcls) : flat (M ++ N) = flat M ++ flat N := by simp [flat]
theorem flat_get {M : Pcls} {i : Nat} {x : Pcl × Value} (h : M[i]? = some x) (j : Nat) (hj : j < 4) : (flat M)[i * 4 + j]? = (x.1.cells x.2)[j]? := by
  induction M generalizing i with
  | nil => simp at h
  | cons y M ih =>
    rcases i with _ | i
    · obtain rfl : y = x := by simpa using h
      simp only [flat, List.flatMap_cons, Nat.zero_mul, Nat.zero_add]
      rw [List.getElem?_append_left (by simp [Pcl.cells]; omega)]
      simp
    · have h' : M[i]? = some x := by simpa using h
      have := ih h'
      simp only [flat, List.flatMap_cons]
      rw [List.getElem?_append_right (by simp [Pcl.cells]; omega)]
      rw [← this]
      congr 1
      simp [Pcl.cells]
      omega

structure RefP (w : World) (bm : Nat) (vL : Value) (M : Pcls) (lost : Int) : Prop where
  blk : Blk w bm 42 #[vL, .int .i64 lost]
  row : w.ownsRow 0 28 4 vL M.length (flat M)
  len : M.length ≤ 256
  own : ∀ x ∈ M, w.ownsRow 0 5 1 x.2 x.1.body.length (bytesV x.1.body)
  apart : M.Pairwise fun x y => ∀ k, x.2.ownBlock = some k → y.2.ownBlock ≠ some k
  small : ∀ x ∈ M, x.1.body.length ≤ 4096

/-- The blocks that belong to it. -/
def rfoot (bm : Nat) (vL : Value) (M : Pcls) (k : Nat) : Prop := k = bm ∨ vL.ownBlock = some k ∨ ∃ x ∈ M, x.2.ownBlock = some k

theorem RefP.upd {F : Nat → Prop} {w w' : World} {bm : Nat} {vL : Value} {M : Pcls} {lost : Int} (h : RefP w bm vL M lost) (hu : Upd F w w') (hF : ∀ k, rfoot bm vL M k → ¬ F k) : RefP w' bm vL M lost :=
  ⟨h.blk.upd hu (hF _ (.inl rfl)), own_upd h.row hu fun k hk => hF k (.inr (.inl hk)), h.len, fun x hx => own_upd (h.own x hx) hu fun k hk => hF k (.inr (.inr ⟨x, hx, hk⟩)), h.apart, h.small⟩
theorem RefP.lt {w : World} {bm : Nat} {vL : Value} {M : Pcls} {lost : Int} (h : RefP w bm vL M lost) {k : Nat} (hk : rfoot bm vL M k) : k < w.heap.size := by
  rcases hk with rfl | hk | ⟨x, hx, hk⟩
  · exact h.blk.lt
  · exact own_lt h.row hk
  · exact own_lt (h.own x hx) hk
theorem RefP.form {w : World} {bm : Nat} {vL : Value} {M : Pcls} {lost : Int} (h : RefP w bm vL M lost) : ∃ A c, vL = .slice A M.length c := own_form h.row

theorem info_parcel : (Try.prog.info? 28).map (fun i => (i.zero, i.size, i.bytes)) = some (some (.agg #[.int .i64 0, .int .i64 0, .slice none 0 0, .bool false]), 4, 48) := by kernel_rfl

set_option maxHeartbeats 1000000 in
theorem is_ok (bm : Nat) (A : Option Addr) (n c : Nat) (lost i : Int) (w : World) (h : Blk w bm 42 #[.slice A n c, .int .i64 lost]) :
    Calls Try.prog 31 #[.pointer (some ⟨bm, 0, none⟩), .int .i64 i] w fun e w' => e = .returned (.bool (decide (0 ≤ i ∧ i < n))) ∧ w = w' := by
  have hc := h.cell
  by_cases h0 : 0 ≤ i
  · have d0 : decide (0 ≤ i) = true := by simpa using h0
    go_enter Try.func31, Try.ntmps31
    go_wp2
    all_goals go_ret
    all_goals exact ⟨ret_bool (by simp [h0]), rfl⟩
  · have d0 : decide (0 ≤ i) = false := by simpa using h0
    go_enter Try.func31, Try.ntmps31
    go_wp2
    go_ret
    exact ⟨ret_bool (by simp), rfl⟩

/-- append of one parcel to an owned row. -/
theorem run_append_pcl (W : World) (AL : Option Addr) (n cL : Nat) (xs : List Value) (a b : Int) (A : Option Addr) (m k : Nat) (s : Bool) (hrow : W.ownsRow 0 28 4 (.slice AL n cL) n xs) (hn : n ≤ 1000) :
    ∃ v' w', (Builtin.append_ #[22, 22] 22 #[.slice AL n cL, .slice (some ⟨W.heap.size, 0, none⟩) 1 1]).run Try.prog (W.alloc (.cells #[.int .i64 a, .int .i64 b, .slice A m k, .bool s] 28)) = .ok v' w' ∧
      w'.ownsRow 0 28 4 v' (n + 1) (xs ++ [.int .i64 a, .int .i64 b, .slice A m k, .bool s]) ∧ Upd (fun k => (Value.slice AL n cL).ownBlock = some k) W w' ∧ (∀ k, v'.ownBlock = some k → (Value.slice AL n cL).ownBlock = some k ∨ W.heap.size ≤ k) := by
  obtain ⟨i, hi, hz, hs, hb⟩ := info_parts info_parcel
  obtain ⟨v', w', hrun, ho, hg, _, hown⟩ := run_append_own_at (P := Try.prog) (W.alloc (.cells #[.int .i64 a, .int .i64 b, .slice A m k, .bool s] 28)) 0 22 22 28 i _ 4 48 Try.underlying22 hi hz hs hb rfl (by omega) _ n xs (hrow.alloc _)
    ⟨W.heap.size, 0, none⟩ 1 1 [.int .i64 a, .int .i64 b, .slice A m k, .bool s] rfl (fun j u hj => by
      have hj' : j < 4 := (List.getElem?_eq_some_iff.1 hj).1
      have e : (⟨W.heap.size, 0, none⟩ : Addr).add j = ⟨W.heap.size, j, none⟩ := by unfold Addr.add; split <;> simp_all
      rw [e, (Blk.new W _ _).cell j]
      simpa using hj) (fun u hu => by
      simp only [List.mem_cons, List.not_mem_nil, or_false] at hu
      rcases hu with rfl | rfl | rfl | rfl <;> rfl) (by simp only [maxLen]; omega) (by omega) (Nat.zero_le _)
  refine ⟨v', w', hrun, ho, ((Upd.refl _ W).alloc _).grown hg fun k hk _ => hk, fun k hk => ?_⟩
  rcases hown with e | e
  · rw [e] at hk; exact .inl hk
  · rw [e] at hk
    simp at hk
    right
    omega

/-- Two owned rows of different element types lie in different blocks. -/
theorem own_own_ne {w : World} {b1 b2 n1 n2 s1 s2 : Nat} {e1 e2 : TypeId} {v1 v2 : Value} {xs1 xs2 : List Value} (h1 : w.ownsRow b1 e1 s1 v1 n1 xs1) (h2 : w.ownsRow b2 e2 s2 v2 n2 xs2) (hne : e1 ≠ e2) {k : Nat} (hk : v1.ownBlock = some k) : v2.ownBlock ≠ some k := by
  rcases h1.2 with ⟨rfl, _⟩ | ⟨g, cap, cur, rfl, _, hh, _⟩
  · simp [Value.ownBlock] at hk
  · obtain rfl : g = k := by simpa [Value.ownBlock] using hk
    exact own_blk_ne h2 (show Blk w g e1 cur from hh) (Ne.symm hne)

theorem refP_sent {w w1 w3 : World} {bm B : Nat} {AL A1 A3 : Option Addr} {cL c1 c3 : Nat} {M : Pcls} {lost : Int} {p : Pcl} (h : RefP w bm (.slice AL M.length cL) M lost) (hU1 : Upd Nowhere w w1)
    (ho1 : w1.ownsRow B 5 1 (.slice A1 p.body.length c1) p.body.length (bytesV p.body)) (hB : w.heap.size ≤ B)
    (ho3 : w3.ownsRow 0 28 4 (.slice A3 (M.length + 1) c3) (M.length + 1) (flat M ++ [.int .i64 p.frm, .int .i64 p.dst, .slice A1 p.body.length c1, .bool p.spoilt]))
    (hu3 : Upd (fun k => (Value.slice AL M.length cL).ownBlock = some k) w1 w3) (hk3 : ∀ k, (Value.slice A3 (M.length + 1) c3).ownBlock = some k → (Value.slice AL M.length cL).ownBlock = some k ∨ w1.heap.size ≤ k) (hl : p.body.length ≤ 4096) (hroom : M.length < 256) :
    RefP (w3.setCell ⟨bm, 0, none⟩ (.slice A3 (M.length + 1) c3)) bm (.slice A3 (M.length + 1) c3) (M ++ [(p, .slice A1 p.body.length c1)]) lost ∧
      (∀ k, (Value.slice A1 p.body.length c1).ownBlock = some k → w.heap.size ≤ k) ∧ (∀ k, (Value.slice A3 (M.length + 1) c3).ownBlock = some k → (Value.slice AL M.length cL).ownBlock = some k ∨ w.heap.size ≤ k) ∧
      Upd (fun k => k = bm ∨ (Value.slice AL M.length cL).ownBlock = some k) w (w3.setCell ⟨bm, 0, none⟩ (.slice A3 (M.length + 1) c3)) := by
  have h1 := h.upd hU1 fun _ _ => id
  have hb3 := h1.blk.upd hu3 (own_blk_ne h1.row h1.blk (by decide))
  have hset : Upd (· = bm) w3 (w3.setCell ⟨bm, 0, none⟩ (.slice A3 (M.length + 1) c3)) := (Upd.refl (· = bm) w3).setCell (fun _ => rfl) _
  have hbody : ∀ v n xs, w1.ownsRow 0 5 1 v n xs → (w3.setCell ⟨bm, 0, none⟩ (.slice A3 (M.length + 1) c3)).ownsRow 0 5 1 v n xs := by
    intro v n xs hv
    have h3 := own_upd hv hu3 fun k hk => own_own_ne hv h1.row (by decide) hk
    exact own_upd h3 hset fun k hk he => by subst he; exact own_blk_ne h3 hb3 (by decide) hk
  have hs1 := hU1.size
  refine ⟨⟨hb3.set_ 0 _, ?_, by simp; omega, ?_, ?_, ?_⟩, fun k hk => Nat.le_trans hB (ho1.lt k hk).1, fun k hk => ?_, ?_⟩
  · have e : flat (M ++ [(p, .slice A1 p.body.length c1)]) = flat M ++ [.int .i64 p.frm, .int .i64 p.dst, .slice A1 p.body.length c1, .bool p.spoilt] := by rw [flat_append]; simp [flat, Pcl.cells]
    rw [e, List.length_append]
    exact own_upd ho3 hset fun k hk he => by subst he; exact own_blk_ne ho3 hb3 (by decide) hk
  · intro x hx
    rcases List.mem_append.1 hx with hx | hx
    · exact hbody _ _ _ (h1.own x hx)
    · simp at hx; subst hx
      exact hbody _ _ _ (own_base ho1 0 fun _ _ => Nat.zero_le _)
  · rw [List.pairwise_append]
    refine ⟨h.apart, List.pairwise_singleton _ _, ?_⟩
    intro x hx y hy k hk he
    simp at hy; subst hy
    have e1 := own_lt (h.own x hx) hk
    have e2 := (ho1.lt k he).1
    omega
  · intro x hx
    rcases List.mem_append.1 hx with hx | hx
    · exact h.small x hx
    · simp at hx; subst hx; exact hl
  · rcases hk3 k hk with h | h
    · exact .inl h
    · exact .inr (by omega)
  · exact ((hU1.mono fun _ _ h => h.elim).trans hu3 fun _ _ h => Or.inr h).trans hset fun _ _ h => Or.inl h

set_option maxHeartbeats 2000000 in
theorem refSend_ok (bm : Nat) (vL : Value) (M : Pcls) (lost : Int) (p : Pcl) (v : Value) (w : World) (h : RefP w bm vL M lost) (hv : Reads w 1 v p.body.length (bytesV p.body)) (hl : p.body.length ≤ 4096) (hroom : M.length < 256) :
    Calls Try.prog 17 #[.pointer (some ⟨bm, 0, none⟩), .agg #[.int .i64 p.frm, .int .i64 p.dst, v, .bool p.spoilt]] w fun e w' => ∃ vL' v', e = .returned (.int .i64 0) ∧ RefP w' bm vL' (M ++ [(p, v')]) lost ∧
      (∀ k, v'.ownBlock = some k → w.heap.size ≤ k) ∧ (∀ k, vL'.ownBlock = some k → vL.ownBlock = some k ∨ w.heap.size ≤ k) ∧ Upd (fun k => k = bm ∨ vL.ownBlock = some k) w w' := by
  obtain ⟨A, c, rfl, _⟩ := hv.val
  obtain ⟨AL, cL, rfl⟩ := h.form
  have HV := Lib.hid hv
  have HR := Lib.hid h
  have hb0 := h.blk.alloc (.cells #[.int .i64 p.frm, .int .i64 p.dst, .slice A p.body.length c, .bool p.spoilt] 28)
  have cb := hb0.cell
  have hlt := h.blk.lt
  have d1 : decide (4096 < (p.body.length : Int)) = false := by simp; omega
  have d2 : decide (256 ≤ (M.length : Int)) = false := by simp; omega
  have HROW : Hid (∀ W, Upd Nowhere w W → W.ownsRow 0 28 4 (.slice AL M.length cL) M.length (flat M)) := fun W hW => own_upd h.row hW fun _ _ => id
  have HNE : Hid (¬ (Value.slice AL M.length cL).ownBlock = some bm) := fun he => own_blk_ne h.row h.blk (by decide) he
  clear h hv hb0
  go_enter Try.func17, Try.ntmps17
  go_upto_region 6 with (fail)
  go_region_law (first
    | (obtain ⟨vL', w3, hrun, ho3, hu3, hk3⟩ := run_append_pcl w1 AL M.length cL (flat M) p.frm p.dst A1 p.body.length c1 p.spoilt (HROW.out w1 hU1) (by omega)
       refine step_append_run rfl _ _ _ rfl rfl rfl hrun ?_
       have hb3 := (HR.out.blk.upd hU1 id).upd hu3 HNE.out
       have hc3 := hb3.cell
       have hf3 := hb3.frozen
       obtain ⟨A3, c3, hv3⟩ := own_form ho3
       subst hv3)
    | (go_simp; go_at_call 11
       refine (copy_ok _ _ _ _ _ _ _ (HV.out.alloc _).drew (bytesV_one _) (by omega)).mono ?_
       rintro e w1 ⟨v1, rfl, ho1, hu1⟩
       have hU1 := ((Upd.refl Nowhere w).alloc _).drew.trans hu1 fun _ _ => id
       obtain ⟨A1, c1, hv1⟩ := own_form ho1
       subst hv1
       have hc1 := (HR.out.blk.upd hU1 id).cell
       have hx1 := ((Blk.new w _ _).drew.upd hu1 id).cell
       have hl1 := (HR.out.blk.upd hU1 id).lt))
  all_goals
    have HO1 := Lib.hid ho1
    have HO3 := Lib.hid ho3
    have HU3 := Lib.hid hu3
    have HU1 := Lib.hid hU1
    have HK3 := Lib.hid hk3
    clear ho1 ho3 hu3 hU1 hb3 hk3 hu1 hrun
    go_wp2
    go_ret
    obtain ⟨r1, r2, r3, r4⟩ := refP_sent HR.out HU1.out HO1.out (by simp) HO3.out HU3.out HK3.out hl hroom
    exact ⟨_, _, rfl, r1, r2, r3, r4⟩
end Go.Proofs.Ytnlidhclieipiaa
