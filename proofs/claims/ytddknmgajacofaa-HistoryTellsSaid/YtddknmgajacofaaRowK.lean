/-
  Rows of structs, of whatever element type: append, and rows that are made since a world.
-/
import Derived.Test.YtddknmgajacofaaKeepA
namespace Go.Proofs.Ytddknmgajacofaa
open Go Go.RowKit

/-- What the walk asks of a slice's type. -/
structure RowK (P : Program) (TS TE : TypeId) {α : Type} (cells : α → List Value) (sz : Nat) : Prop where
  und : P.underlying TS = some (.slice TE)
  info : ∃ z bytes, (P.info? TE).map (fun i => (i.zero, i.size, i.bytes)) = some (some z, sz, bytes) ∧ z.cells.size = sz ∧ bytes ≤ 1000
  len : ∀ a, (cells a).length = sz
  one : ∀ a, ∀ u ∈ cells a, u.oneCell' = true
  pos : 0 < sz

/-- The row v holds L, is its own, and lies at or beyond B. -/
structure OwnR (TE : TypeId) {α : Type} (cells : α → List Value) (sz : Nat) (B : Nat) (w : World) (v : Value) (L : List α) : Prop where
  row : w.ownsRow 0 TE sz v L.length (L.flatMap cells)
  new : ∀ k, v.ownBlock = some k → B ≤ k

section
variable {P : Program} {TS TE : TypeId} {α : Type} {cells : α → List Value} {sz B : Nat} {w w' : World} {v : Value} {L : List α}
theorem OwnR.nil (TE : TypeId) {α : Type} (cells : α → List Value) (sz B : Nat) (w : World) : OwnR TE cells sz B w (.slice none 0 0) [] := ⟨World.ownsRow_nil _ _ _ _, fun _ h => by cases h⟩
theorem OwnR.upd {F : Nat → Prop} (h : OwnR TE cells sz B w v L) (hu : Upd F w w') (hn : ∀ k, v.ownBlock = some k → ¬ F k) : OwnR TE cells sz B w' v L := ⟨own_upd h.row hu hn, h.new⟩
theorem OwnR.alloc (h : OwnR TE cells sz B w v L) (o : Obj) : OwnR TE cells sz B (w.alloc o) v L := h.upd ((Upd.refl Nowhere w).alloc o) fun _ _ => id
theorem OwnR.far {B' : Nat} (h : OwnR TE cells sz B w v L) (hb : ∀ k, v.ownBlock = some k → B' ≤ k) : OwnR TE cells sz B' w v L := ⟨h.row, hb⟩
theorem OwnR.lt (h : OwnR TE cells sz B w v L) {k : Nat} (hk : v.ownBlock = some k) : k < w.heap.size := own_lt h.row hk
theorem OwnR.els (h : OwnR TE cells sz B w v L) : Els sz cells w v L := Reads.of_own h.row
theorem OwnR.blk_ne {g t : Nat} {cs : Array Value} (h : OwnR TE cells sz B w v L) (hg : Blk w g t cs) (hne : TE ≠ t) : v.ownBlock ≠ some g := own_blk_ne h.row hg hne
theorem OwnR.some_block (h : OwnR TE cells sz B w v L) (hL : L ≠ []) : ∃ g, v.ownBlock = some g := by
  rcases h.row.2 with ⟨_, h0⟩ | ⟨g, cap, cur, rfl, _⟩
  · exact absurd (List.length_eq_zero_iff.1 h0) hL
  · exact ⟨g, rfl⟩
theorem OwnR.nil_iff (h : OwnR TE cells sz B w v L) (hL : v.ownBlock = none) : v = .slice none 0 0 ∧ L = [] := by
  rcases h.row.2 with ⟨h1, h0⟩ | ⟨g, cap, cur, rfl, _⟩
  · exact ⟨h1, List.length_eq_zero_iff.1 h0⟩
  · cases hL
theorem OwnR.is_cells (h : OwnR TE cells sz B w v L) {k : Nat} (hk : v.ownBlock = some k) : ∃ cs, w.heap[k]? = some (.cells cs TE (0, 0)) := by
  rcases h.row.2 with ⟨rfl, _⟩ | ⟨g, cap, cur, rfl, _, hh, _⟩
  · cases hk
  · have : g = k := by simpa [Value.ownBlock] using hk
    subst this
    exact ⟨cur, hh⟩
/-- append(v, K...): K lies at ad. -/
theorem RowK.app (R : RowK P TS TE cells sz) (h : OwnR TE cells sz B w v L) (hB : B ≤ w.heap.size) (ty : TypeId) (ad : Addr) (m c : Nat) (K : List α) (hm : K.length = m) (hK : ∀ j u, (K.flatMap cells)[j]? = some u → w.cell? (ad.add j) = some u) (hn : L.length + m ≤ 100000) :
    ∃ v' w', (Builtin.append_ #[TS, TS] ty #[v, .slice (some ad) m c]).run P w = .ok v' w' ∧ OwnR TE cells sz B w' v' (L ++ K) ∧ w.grownBy w' v.ownBlock ∧ (∀ k, v'.ownBlock = some k → v.ownBlock = some k ∨ w.heap.size ≤ k) := by
  subst hm
  obtain ⟨z, bytes, hinfo, hzs, hby⟩ := R.info
  obtain ⟨i, hi, hz, hs, hb⟩ := info_parts hinfo
  have h1 : ∀ u ∈ K.flatMap cells, u.oneCell' = true := fun u hu => by
    obtain ⟨x, _, hx⟩ := List.mem_flatMap.1 hu
    exact R.one x u hx
  obtain ⟨v', w', hrun, ho, hg, _, hown⟩ := run_append_own_at (P := P) w 0 TS ty TE i z sz bytes R.und hi hz hs hb hzs R.pos v L.length (L.flatMap cells) h.row ad K.length c (K.flatMap cells) (flatMap_len R.len K) hK h1 (by simp only [maxLen]; omega)
    (Nat.le_trans (Nat.mul_le_mul hn hby) (by decide)) (Nat.zero_le _)
  refine ⟨v', w', hrun, ⟨by rw [List.flatMap_append, List.length_append]; exact ho, fun k hk => ?_⟩, hg, fun k hk => ?_⟩
  · rcases hown with e | e
    · exact h.new k (e ▸ hk)
    · rw [e] at hk; simp at hk; omega
  · rcases hown with e | e
    · exact .inl (e ▸ hk)
    · rw [e] at hk; simp at hk; exact .inr (by omega)
theorem flat_one (a : α) : [a].flatMap cells = cells a := by simp
/-- append(v, x): x lies in a block of its own, laid just now. -/
theorem RowK.app1 (R : RowK P TS TE cells sz) (h : OwnR TE cells sz B w v L) (hB : B ≤ w.heap.size) (ty : TypeId) (x : α) (cs : Array Value) (hcs : cs.toList = cells x) (hn : L.length + 1 ≤ 100000) :
    ∃ v' w', (Builtin.append_ #[TS, TS] ty #[v, .slice (some ⟨w.heap.size, 0, none⟩) 1 1]).run P (w.alloc (.cells cs TE)) = .ok v' w' ∧ OwnR TE cells sz B w' v' (L ++ [x]) ∧ w.grownBy w' v.ownBlock ∧ (∀ k, v'.ownBlock = some k → v.ownBlock = some k ∨ w.heap.size ≤ k) := by
  have hb := Blk.new w TE cs
  obtain ⟨v', w', h1, h2, h3, h4⟩ := R.app (h.alloc (.cells cs TE)) (by simp; omega) ty ⟨w.heap.size, 0, none⟩ 1 1 [x] rfl (fun j u hj => by
    have e : (⟨w.heap.size, 0, none⟩ : Addr).add j = ⟨w.heap.size, j, none⟩ := by unfold Addr.add; split <;> simp_all
    rw [e, hb.cell j, ← Array.getElem?_toList, hcs]
    simpa using hj) hn
  refine ⟨v', w', h1, h2, (World.grownBy_alloc w _ _).trans h3, fun k hk => ?_⟩
  rcases h4 k hk with e | e
  · exact .inl e
  · simp at e; exact .inr (by omega)
end
end Go.Proofs.Ytddknmgajacofaa
