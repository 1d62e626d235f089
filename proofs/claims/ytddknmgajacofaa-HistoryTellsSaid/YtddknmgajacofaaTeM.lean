/-
  A map from numbers to lists of numbers.
-/
import Derived.Test.YtddknmgajacofaaTeK
import Derived.Test.YtddknmgajacofaaRoundP
namespace Go.Proofs.Ytddknmgajacofaa
open Go Go.RowKit

/-- The map in block bm groups numbers: each one's lie in a row of their own, at or beyond B; dom: who is in the map. -/
structure GrI (B : Nat) (W : World) (bm : Nat) (g : Int → List Int) (dom : Int → Prop) : Prop where
  out : ∃ f, MapIs encI W bm f ∧ (∀ t, f t ≠ none ↔ dom t) ∧ (∀ t, f t = none → g t = []) ∧ (∀ t v, f t = some v → OwnI B W v (g t)) ∧ ∀ t t' v v' k, t ≠ t' → f t = some v → f t' = some v' → v.ownBlock = some k → v'.ownBlock ≠ some k
section
variable {B bm : Nat} {W W' : World} {g : Int → List Int} {dom : Int → Prop}
theorem GrI.new (B : Nat) (W : World) : GrI B (W.alloc (.map #[] 0)) W.heap.size (fun _ => []) (fun _ => False) :=
  ⟨⟨fun _ => none, MapIs.new W encI, fun _ => by simp, fun _ _ => rfl, fun _ _ h => (by cases h), fun _ _ _ _ _ _ h => (by cases h)⟩⟩
theorem GrI.lt (h : GrI B W bm g dom) : bm < W.heap.size := by obtain ⟨_, hm, _⟩ := h.out; exact hm.lt
theorem GrI.upd {F : Nat → Prop} (h : GrI B W bm g dom) (hu : Upd F W W') (hb : ¬ F bm) (hF : ∀ k cs fz, B ≤ k → W.heap[k]? = some (.cells cs 3 fz) → ¬ F k) : GrI B W' bm g dom := by
  obtain ⟨f, hm, hd, h1, h2, h3⟩ := h.out
  exact ⟨⟨f, hm.upd hu hb, hd, h1, fun t v ht => (h2 t v ht).upd hu fun k hk => by
    obtain ⟨cs, hcs⟩ := (h2 t v ht).is_cells hk
    exact hF k _ _ ((h2 t v ht).new k hk) hcs, h3⟩⟩
theorem GrI.alloc (h : GrI B W bm g dom) (o : Obj) : GrI B (W.alloc o) bm g dom := h.upd ((Upd.refl Nowhere W).alloc o) id fun _ _ _ _ _ => id
theorem GrI.drew (h : GrI B W bm g dom) : GrI B W.drew bm g dom := h.upd ((Upd.refl Nowhere W).drew) id fun _ _ _ _ _ => id
theorem GrI.congr {g' : Int → List Int} {dom' : Int → Prop} (h : GrI B W bm g dom) (e : ∀ t, g t = g' t) (e' : ∀ t, dom t ↔ dom' t) : GrI B W bm g' dom' := by
  rw [show g' = g from funext fun t => (e t).symm, show dom' = dom from funext fun t => propext (e' t).symm]; exact h
/-- m[t]. -/
theorem GrI.look (h : GrI B W bm g dom) (t : Int) : ∃ v, (Instr.lookup 48 (.map (some bm)) (.int .i64 t) false).run Try.prog W = .ok v W ∧ OwnI B W v (g t) ∧
    (∀ o, (Instr.lookup 48 (.map (some bm)) (.int .i64 t) false).run Try.prog (W.alloc o) = .ok v (W.alloc o)) ∧ (∃ b, (Instr.lookup 48 (.map (some bm)) (.int .i64 t) true).run Try.prog W = .ok (.tuple #[v, .bool b]) W ∧ (b = true ↔ dom t)) := by
  obtain ⟨f, hm, hd, h1, h2, h3⟩ := h.out
  have hl := hm.look KI (P := Try.prog) Try.underlying48 Try.underlying3 (Try.zeroValue25 _) t false
  have hl2 := fun o => (hm.alloc o).look KI (P := Try.prog) Try.underlying48 Try.underlying3 (Try.zeroValue25 _) t false
  have hl3 := hm.look KI (P := Try.prog) Try.underlying48 Try.underlying3 (Try.zeroValue25 _) t true
  simp only [Bool.false_eq_true, if_false, if_true] at hl hl2 hl3
  refine ⟨_, hl, ?_, hl2, _, hl3, ?_⟩
  · cases ht : f t with
    | none =>
      rw [h1 t ht]
      exact OwnR.nil _ _ _ _ _
    | some v => exact h2 t v ht
  · rw [← hd]
    cases f t <;> simp
/-- m[t] = append(m[t], x), x being laid just now. -/
theorem GrI.push (h : GrI B W bm g dom) (hB : B ≤ W.heap.size) (hbm : bm < B) (t x : Int) (hn : (g t).length ≤ 5000) {v : Value} (hv : (Instr.lookup 48 (.map (some bm)) (.int .i64 t) false).run Try.prog W = .ok v W) :
    ∃ v' W1 W2, (Builtin.append_ #[25, 25] 25 #[v, .slice (some ⟨W.heap.size, 0, none⟩) 1 1]).run Try.prog (W.alloc (.cells #[.int .i64 x] 3)) = .ok v' W1 ∧
      (Instr.mapUpdate 48 (.map (some bm)) (.int .i64 t) v').run Try.prog W1 = .ok () W2 ∧ GrI B W2 bm (fun y => if y = t then g t ++ [x] else g y) (fun y => y = t ∨ dom y) ∧ Upd (fun k => k = bm ∨ B ≤ k) W W2 ∧ (∀ k, k < W.heap.size → k ≠ bm → v.ownBlock ≠ some k → W1.heap[k]? = W.heap[k]? ∧ W2.heap[k]? = W.heap[k]?) ∧ OwnI B W v (g t) := by
  obtain ⟨f, hm, hd, h1, h2, h3⟩ := h.out
  have hl := hm.look KI (P := Try.prog) Try.underlying48 Try.underlying3 (Try.zeroValue25 _) t false
  have ho : OwnI B W v (g t) := by
    cases ht : f t with
    | none =>
      rw [ht, hv] at hl
      simp only [Option.getD_none, Bool.false_eq_true, if_false, Result.ok.injEq] at hl
      rw [hl.1, h1 t ht]
      exact OwnR.nil _ _ _ _ _
    | some v0 =>
      rw [ht, hv] at hl
      simp only [Option.getD_some, Bool.false_eq_true, if_false, Result.ok.injEq] at hl
      rw [hl.1]
      exact h2 t v0 ht
  have hvf : ∀ t' v' k, t' ≠ t → f t' = some v' → v'.ownBlock = some k → v.ownBlock ≠ some k := fun t' v' k hne ht' hk => by
    cases ht : f t with
    | none =>
      rw [ht, hv] at hl
      simp only [Option.getD_none, Bool.false_eq_true, if_false, Result.ok.injEq] at hl
      rw [hl.1]; simp [Value.ownBlock]
    | some v0 =>
      rw [ht, hv] at hl
      simp only [Option.getD_some, Bool.false_eq_true, if_false, Result.ok.injEq] at hl
      rw [hl.1]
      exact h3 t' t v' v0 k hne ht' ht hk
  obtain ⟨v1, W1, hr1, ho1, hg1, hb1⟩ := rkI.app1 ho hB 25 x #[.int .i64 x] rfl (by omega)
  have hm1 : MapIs encI W1 bm f := hm.grown hg1 fun hk => by have := ho.new _ hk; omega
  obtain ⟨W2, hr2, hm2, hg2, hs2⟩ := hm1.store KI (P := Try.prog) Try.underlying48 Try.underlying3 t v1
  have hu1 : Upd (fun k => v.ownBlock = some k) W W1 := (Upd.refl _ W).grown hg1 fun k hk _ => hk
  have hu2 : Upd (fun k => k = bm) W1 W2 := (Upd.refl _ W1).grown hg2 fun k hk _ => (Option.some.inj hk).symm
  have hcell : ∀ {y : Value} {L : List Int}, OwnI B W1 y L → ∀ k, y.ownBlock = some k → ¬ k = bm := fun hy k hk e => by
    have := hy.new k hk
    omega
  refine ⟨v1, W1, W2, hr1, hr2, ⟨⟨_, hm2, fun y => ?_, fun y hy => ?_, fun y u hy => ?_, fun y y' u u' k hne hy hy' hk => ?_⟩⟩, ?_, fun k hk hkb hkv => ⟨hu1.block k hk hkv, (hu2.block k (Nat.lt_of_lt_of_le hk hu1.size) hkb).trans (hu1.block k hk hkv)⟩, ho⟩
  · by_cases e : y = t
    · subst e; rw [putF_same]; simp
    · rw [putF_other _ e, hd]; simp [e]
  · by_cases e : y = t
    · subst e; rw [putF_same] at hy; cases hy
    · rw [putF_other _ e] at hy; rw [if_neg e]; exact h1 y hy
  · by_cases e : y = t
    · subst e
      rw [putF_same] at hy
      cases hy
      rw [if_pos rfl]
      exact ho1.upd hu2 (hcell ho1)
    · rw [putF_other _ e] at hy
      rw [if_neg e]
      have h5 : OwnI B W1 u (g y) := (h2 y u hy).upd hu1 fun k hk hk' => hvf y u k e hy hk hk'
      exact h5.upd hu2 (hcell h5)
  · by_cases e : y = t
    · subst e
      rw [putF_same] at hy
      rw [putF_other _ (fun e => hne e.symm)] at hy'
      cases hy
      intro hk'
      rcases hb1 k hk with h6 | h6
      · exact hvf y' u' k (fun e => hne e.symm) hy' hk' h6
      · have := (h2 y' u' hy').lt hk'
        omega
    · rw [putF_other _ e] at hy
      by_cases e' : y' = t
      · subst e'
        rw [putF_same] at hy'
        cases hy'
        intro hk'
        rcases hb1 k hk' with h6 | h6
        · exact hvf y u k e hy hk h6
        · have := (h2 y u hy).lt hk
          omega
      · rw [putF_other _ e'] at hy'
        exact h3 y y' u u' k hne hy hy' hk
  · exact (hu1.mono (G := fun k => k = bm ∨ B ≤ k) fun k _ hk => .inr (ho.new k hk)).trans hu2 fun k _ hk => .inl hk
/-- m[t] = nil, where t is not in the map. -/
theorem GrI.mark (h : GrI B W bm g dom) (hbm : bm < B) (t : Int) (ht : ¬ dom t) : ∃ W2, (Instr.mapUpdate 48 (.map (some bm)) (.int .i64 t) (.slice none 0 0)).run Try.prog W = .ok () W2 ∧ GrI B W2 bm g (fun y => y = t ∨ dom y) ∧ Upd (fun k => k = bm) W W2 ∧ W2.heap.size = W.heap.size := by
  obtain ⟨f, hm, hd, h1, h2, h3⟩ := h.out
  have hft : f t = none := by
    cases hf : f t with
    | none => rfl
    | some v => exact absurd ((hd t).1 (by rw [hf]; simp)) ht
  obtain ⟨W2, hr2, hm2, hg2, hs2⟩ := hm.store KI (P := Try.prog) Try.underlying48 Try.underlying3 t (.slice none 0 0)
  have hu2 : Upd (fun k => k = bm) W W2 := (Upd.refl _ W).grown hg2 fun k hk _ => (Option.some.inj hk).symm
  refine ⟨W2, hr2, ⟨⟨_, hm2, fun y => ?_, fun y hy => ?_, fun y u hy => ?_, fun y y' u u' k hne hy hy' hk => ?_⟩⟩, hu2, hs2⟩
  · by_cases e : y = t
    · subst e; rw [putF_same]; simp
    · rw [putF_other _ e, hd]; simp [e]
  · by_cases e : y = t
    · subst e; rw [putF_same] at hy; cases hy
    · rw [putF_other _ e] at hy; exact h1 y hy
  · by_cases e : y = t
    · subst e
      rw [putF_same] at hy
      cases hy
      rw [h1 y hft]
      exact OwnR.nil _ _ _ _ _
    · rw [putF_other _ e] at hy
      exact (h2 y u hy).upd hu2 fun k hk e => by have := (h2 y u hy).new k hk; omega
  · by_cases e : y = t
    · subst e
      rw [putF_same] at hy
      cases hy
      cases hk
    · rw [putF_other _ e] at hy
      by_cases e' : y' = t
      · subst e'; rw [putF_same] at hy'; cases hy'; simp [Value.ownBlock]
      · rw [putF_other _ e'] at hy'
        exact h3 y y' u u' k hne hy hy' hk
end
end Go.Proofs.Ytddknmgajacofaa
