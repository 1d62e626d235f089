/-
  History: a map from transactions to their events.
-/
import Derived.Test.YtddknmgajacofaaHistK
import Derived.Test.YtddknmgajacofaaRoundP
namespace Go.Proofs.Ytddknmgajacofaa
open Go Go.RowKit

theorem rkE : RowK Try.prog 22 41 EvD.cells 5 := ⟨Try.underlying22, ⟨.agg #[.int .i64 0, .int .i64 0, .string ⟨#[]⟩, .bool false, .string ⟨#[]⟩], 56, by kernel_rfl, rfl, by decide⟩, EvD.cells_len, fun a u hu => by
  simp only [EvD.cells, List.mem_cons, List.not_mem_nil, or_false] at hu
  rcases hu with rfl | rfl | rfl | rfl | rfl <;> rfl, by decide⟩
abbrev OwnE := OwnR 41 EvD.cells 5

/-- The map in block bm groups events: each transaction's lie in a row of their own, at or beyond B. -/
structure Groups (B : Nat) (W : World) (bm : Nat) (g : Int → List EvD) : Prop where
  out : ∃ f, MapIs encI W bm f ∧ (∀ t, f t = none → g t = []) ∧ (∀ t v, f t = some v → g t ≠ [] ∧ OwnE B W v (g t)) ∧ ∀ t t' v v', t ≠ t' → f t = some v → f t' = some v' → v.ownBlock ≠ v'.ownBlock
theorem map_ne_cells {α : Type} {enc : α → Value} {W : World} {b k : Nat} {f : α → Option Value} (h : MapIs enc W b f) {cs : Array Value} {t : TypeId} {fz : Nat × Nat} (hk : W.heap[k]? = some (.cells cs t fz)) : b ≠ k := by
  rintro rfl
  obtain ⟨_, _, hh, _⟩ := h
  rw [hk] at hh; cases hh
/-- Block Bx is none of the map's rows. -/
def ApartE (W : World) (bm Bx : Nat) : Prop := ∀ f, MapIs encI W bm f → ∀ t v, f t = some v → v.ownBlock ≠ some Bx
theorem ApartE.of_block {W W' : World} {bm Bx : Nat} (h : ApartE W bm Bx) (hb : W'.heap[bm]? = W.heap[bm]?) : ApartE W' bm Bx := fun f hf => h f (hf.of_block hb.symm)
section
variable {B bm : Nat} {W W' : World} {g : Int → List EvD}
theorem Groups.new (B : Nat) (W : World) : Groups B (W.alloc (.map #[] 0)) W.heap.size (fun _ => []) := ⟨⟨fun _ => none, MapIs.new W encI, fun _ _ => rfl, fun _ _ h => (by cases h), fun _ _ _ _ _ h => (by cases h)⟩⟩
theorem Groups.lt (h : Groups B W bm g) : bm < W.heap.size := by obtain ⟨_, hm, _⟩ := h.out; exact hm.lt
/-- What changes neither the map nor cells at or beyond B. -/
theorem Groups.upd {F : Nat → Prop} (h : Groups B W bm g) (hu : Upd F W W') (hb : ¬ F bm) (hF : ∀ k cs t fz, B ≤ k → W.heap[k]? = some (.cells cs t fz) → ¬ F k) : Groups B W' bm g := by
  obtain ⟨f, hm, h1, h2, h3⟩ := h.out
  exact ⟨⟨f, hm.upd hu hb, h1, fun t v ht => ⟨(h2 t v ht).1, (h2 t v ht).2.upd hu fun k hk => by
    obtain ⟨cs, hcs⟩ := (h2 t v ht).2.is_cells hk
    exact hF k _ _ _ ((h2 t v ht).2.new k hk) hcs⟩, h3⟩⟩
theorem Groups.alloc (h : Groups B W bm g) (o : Obj) : Groups B (W.alloc o) bm g := h.upd ((Upd.refl Nowhere W).alloc o) id fun _ _ _ _ _ _ => id
theorem Groups.drew (h : Groups B W bm g) : Groups B W.drew bm g := h.upd ((Upd.refl Nowhere W).drew) id fun _ _ _ _ _ _ => id
theorem Groups.congr {g' : Int → List EvD} (h : Groups B W bm g) (e : ∀ t, g t = g' t) : Groups B W bm g' := by rw [show g' = g from funext fun t => (e t).symm]; exact h
theorem Groups.apart (h : Groups B W bm g) (o : Obj) : ApartE (W.alloc o) bm W.heap.size := by
  intro f hf t v ht
  obtain ⟨f0, hm, _, h2, _⟩ := h.out
  rw [hf.unique (hm.alloc o)] at ht
  intro e
  have := (h2 t v ht).2.lt e
  omega
theorem ApartE.look {Bx : Nat} (h : ApartE W bm Bx) (hg : Groups B W bm g) {t : Int} {v : Value} (hv : (Instr.lookup 75 (.map (some bm)) (.int .i64 t) false).run Try.prog W = .ok v W) : v.ownBlock ≠ some Bx := by
  obtain ⟨f, hm, _⟩ := hg.out
  have h1 := hm.look KI (P := Try.prog) Try.underlying75 Try.underlying3 (Try.zeroValue22 _) t false
  rw [h1] at hv
  simp only [Bool.false_eq_true, if_false, Result.ok.injEq] at hv
  cases ht : f t with
  | none => rw [ht] at hv; rw [← hv.1]; simp [Value.ownBlock]
  | some u => rw [ht] at hv; rw [← hv.1]; exact h f hm t u ht
/-- m[t]: the transaction's events, nil where there are none. -/
theorem Groups.look (h : Groups B W bm g) (t : Int) : ∃ v, (Instr.lookup 75 (.map (some bm)) (.int .i64 t) false).run Try.prog W = .ok v W ∧ OwnE B W v (g t) ∧ (g t = [] → v = .slice none 0 0) := by
  obtain ⟨f, hm, h1, h2, h3⟩ := h.out
  have hl := hm.look KI (P := Try.prog) Try.underlying75 Try.underlying3 (Try.zeroValue22 _) t false
  cases ht : f t with
  | none =>
    rw [ht] at hl
    refine ⟨_, hl, ?_, fun _ => rfl⟩
    rw [h1 t ht]
    exact OwnR.nil _ _ _ _ _
  | some v =>
    rw [ht] at hl
    exact ⟨_, hl, (h2 t v ht).2, fun e => absurd e (h2 t v ht).1⟩
theorem Groups.look_alloc (h : Groups B W bm g) {t : Int} {v : Value} (hv : (Instr.lookup 75 (.map (some bm)) (.int .i64 t) false).run Try.prog W = .ok v W) (x : Obj) :
    (Instr.lookup 75 (.map (some bm)) (.int .i64 t) false).run Try.prog (W.alloc x) = .ok v (W.alloc x) := by
  obtain ⟨f, hm, _⟩ := h.out
  have h1 := hm.look KI (P := Try.prog) Try.underlying75 Try.underlying3 (Try.zeroValue22 _) t false
  have h2 := (hm.alloc x).look KI (P := Try.prog) Try.underlying75 Try.underlying3 (Try.zeroValue22 _) t false
  rw [h1] at hv
  simp only [Bool.false_eq_true, if_false, Result.ok.injEq] at hv h2
  rw [← hv.1]
  exact h2
/-- m[t] = append(m[t], e), e being laid just now. -/
theorem Groups.push (h : Groups B W bm g) (hB : B ≤ W.heap.size) (hbm : bm < B) (t : Int) (e : EvD) (hn : (g t).length ≤ 5000) {v : Value} (hv : (Instr.lookup 75 (.map (some bm)) (.int .i64 t) false).run Try.prog W = .ok v W) :
    ∃ v' W1 W2, (Builtin.append_ #[22, 22] 22 #[v, .slice (some ⟨W.heap.size, 0, none⟩) 1 1]).run Try.prog (W.alloc (.cells e.arr 41)) = .ok v' W1 ∧
      (Instr.mapUpdate 75 (.map (some bm)) (.int .i64 t) v').run Try.prog W1 = .ok () W2 ∧ Groups B W2 bm (fun x => if x = t then g t ++ [e] else g x) ∧ Upd (fun k => k = bm ∨ B ≤ k) W W2 ∧ (∀ k o, bm < k → W.heap[k]? = some o → o.isCells = false → W2.heap[k]? = some o) ∧ W.heap.size ≤ W2.heap.size ∧ (∀ k, k < W.heap.size → k ≠ bm → v.ownBlock ≠ some k → W1.heap[k]? = W.heap[k]? ∧ W2.heap[k]? = W.heap[k]?) := by
  obtain ⟨f, hm, h1, h2, h3⟩ := h.out
  have hl := hm.look KI (P := Try.prog) Try.underlying75 Try.underlying3 (Try.zeroValue22 _) t false
  have ho : OwnE B W v (g t) := by
    cases ht : f t with
    | none =>
      rw [ht, hv] at hl
      simp only [Option.getD_none, Bool.false_eq_true, if_false, Result.ok.injEq] at hl
      rw [hl.1, h1 t ht]
      exact OwnR.nil _ _ _ _ _
    | some v0 =>
      rw [ht, hv] at hl
      simp only [Option.getD_some, Bool.false_eq_true, if_false, Result.ok.injEq] at hl
      rw [hl.1]
      exact (h2 t v0 ht).2
  have hvf : ∀ t' v', t' ≠ t → f t' = some v' → v'.ownBlock ≠ v.ownBlock ∨ v.ownBlock = none := fun t' v' hne ht' => by
    cases ht : f t with
    | none =>
      rw [ht, hv] at hl
      simp only [Option.getD_none, Bool.false_eq_true, if_false, Result.ok.injEq] at hl
      rw [hl.1]; exact .inr rfl
    | some v0 =>
      rw [ht, hv] at hl
      simp only [Option.getD_some, Bool.false_eq_true, if_false, Result.ok.injEq] at hl
      rw [hl.1]
      exact .inl (h3 t' t v' v0 hne ht' ht)
  obtain ⟨v1, W1, hr1, ho1, hg1, hb1⟩ := rkE.app1 ho hB 22 e e.arr rfl (by omega)
  have hm1 : MapIs encI W1 bm f := hm.grown hg1 fun hk => by have := ho.new _ hk; omega
  obtain ⟨W2, hr2, hm2, hg2, hs2⟩ := hm1.store KI (P := Try.prog) Try.underlying75 Try.underlying3 t v1
  have hu1 : Upd (fun k => v.ownBlock = some k) W W1 := (Upd.refl _ W).grown hg1 fun k hk _ => hk
  have hu2 : Upd (fun k => k = bm) W1 W2 := (Upd.refl _ W1).grown hg2 fun k hk _ => (Option.some.inj hk).symm
  have hcell : ∀ {x : Value} {L : List EvD}, OwnE B W1 x L → ∀ k, x.ownBlock = some k → ¬ k = bm := fun hx k hk e => by
    have := hx.new k hk
    omega
  refine ⟨v1, W1, W2, hr1, hr2, ⟨⟨_, hm2, fun x hx => ?_, fun x u hx => ?_, fun x x' u u' hne hx hx' => ?_⟩⟩, ?_, fun k o hk h0 ho' => ?_, by have := hg1.size; omega, fun k hk hkb hkv => ⟨hu1.block k hk hkv, (hu2.block k (Nat.lt_of_lt_of_le hk hu1.size) hkb).trans (hu1.block k hk hkv)⟩⟩
  · by_cases e : x = t
    · subst e; rw [putF_same] at hx; cases hx
    · rw [putF_other _ e] at hx; rw [if_neg e]; exact h1 x hx
  · by_cases e : x = t
    · subst e
      rw [putF_same] at hx
      cases hx
      rw [if_pos rfl]
      exact ⟨by simp, ho1.upd hu2 (hcell ho1)⟩
    · rw [putF_other _ e] at hx
      rw [if_neg e]
      refine ⟨(h2 x u hx).1, ?_⟩
      have h5 : OwnE B W1 u (g x) := (h2 x u hx).2.upd hu1 fun k hk hk' => by
        rcases hvf x u e hx with h6 | h6
        · exact h6 (hk.trans hk'.symm)
        · rw [h6] at hk'; cases hk'
      exact h5.upd hu2 (hcell h5)
  · by_cases e : x = t
    · subst e
      rw [putF_same] at hx
      rw [putF_other _ (fun e => hne e.symm)] at hx'
      cases hx
      intro he
      obtain ⟨k, hk⟩ := ho1.some_block (by simp)
      rcases hb1 k hk with h6 | h6
      · rcases hvf x' u' (fun e => hne e.symm) hx' with h7 | h7
        · exact h7 ((he ▸ hk).trans h6.symm)
        · rw [h7] at h6; cases h6
      · have := (h2 x' u' hx').2.lt (he ▸ hk)
        omega
    · rw [putF_other _ e] at hx
      by_cases e' : x' = t
      · subst e'
        rw [putF_same] at hx'
        cases hx'
        intro he
        obtain ⟨k, hk⟩ := ho1.some_block (by simp)
        rcases hb1 k hk with h6 | h6
        · rcases hvf x u e hx with h7 | h7
          · exact h7 ((he ▸ hk : u.ownBlock = some k).trans h6.symm)
          · rw [h7] at h6; cases h6
        · have := (h2 x u hx).2.lt (he ▸ hk : u.ownBlock = some k)
          omega
      · rw [putF_other _ e'] at hx'
        exact h3 x x' u u' hne hx hx'
  · refine (hu1.mono (G := fun k => k = bm ∨ B ≤ k) fun k _ hk => .inr (ho.new k hk)).trans hu2 fun k _ hk => .inl hk
  · rw [hu2.block k (by have := lt_of_heap h0; have := hg1.size; omega) (by omega)]
    rw [hu1.block k (lt_of_heap h0) fun hk' => by
      obtain ⟨cs, hcs⟩ := ho.is_cells hk'
      rw [h0] at hcs
      cases hcs
      cases ho']
    exact h0
/-- delete(m, t). -/
theorem Groups.del (h : Groups B W bm g) (hbm : bm < B) (t : Int) : ∃ W2, (Builtin.delete_ #[75, 3] 0 #[.map (some bm), .int .i64 t]).run Try.prog W = .ok (.tuple #[]) W2 ∧ Groups B W2 bm (fun x => if x = t then [] else g x) ∧ Upd (fun k => k = bm) W W2 := by
  obtain ⟨f, hm, h1, h2, h3⟩ := h.out
  obtain ⟨W2, hr2, hm2, hg2, hs2⟩ := hm.del KI (P := Try.prog) (ts := #[75, 3]) (ty := 0) rfl Try.underlying75 Try.underlying3 t
  have hu2 : Upd (fun k => k = bm) W W2 := (Upd.refl _ W).grown hg2 fun k hk _ => (Option.some.inj hk).symm
  refine ⟨W2, hr2, ⟨⟨_, hm2, fun x hx => ?_, fun x u hx => ?_, fun x x' u u' hne hx hx' => ?_⟩⟩, hu2⟩
  · by_cases e : x = t
    · rw [if_pos e]
    · rw [putF_other _ e] at hx; rw [if_neg e]; exact h1 x hx
  · by_cases e : x = t
    · subst e; rw [putF_same] at hx; cases hx
    · rw [putF_other _ e] at hx
      rw [if_neg e]
      exact ⟨(h2 x u hx).1, (h2 x u hx).2.upd hu2 fun k hk e => by have := (h2 x u hx).2.new k hk; omega⟩
  · by_cases e : x = t
    · subst e; rw [putF_same] at hx; cases hx
    · by_cases e' : x' = t
      · subst e'; rw [putF_same] at hx'; cases hx'
      · rw [putF_other _ e] at hx
        rw [putF_other _ e'] at hx'
        exact h3 x x' u u' hne hx hx'
end
end Go.Proofs.Ytddknmgajacofaa
