/-
  The reference's load: what it has in memory.
-/
import Derived.Test.YtlboobboacjnmaaDoorLoadJ
import Derived.Test.YtlboobboacjnmaaDoorLoadK
namespace Go.Proofs.YtlboobboacjnmaaDoor
open Go Go.RowKit

structure RfP (w0 w : World) (bm bs : Nat) (m : MixD) (x : Int) (v : Value) (L : List ActD) : Prop where
  mix : Blk w bm 24 #[.int .i64 m.nodes, .int .i64 m.txs, .int .i64 m.steps, .int .i64 m.keys, .int .i64 m.writes, .int .i64 m.quits, .int .i64 m.drops, .int .i64 m.falls]
  seed : Blk w bs 53 #[.int .u64 x]
  row : w.ownsRow 0 39 11 v L.length (flatA L)
  old : ∀ k, (k = bm ∨ k = bs ∨ v.ownBlock = some k) → w0.heap.size ≤ k
  upd : Upd Nowhere w0 w

section
variable {w0 w w' W : World} {bm bs : Nat} {m : MixD} {x : Int} {v : Value} {L : List ActD}
theorem RfP.far (h : RfP w0 w bm bs m x v L) (hu : Upd Nowhere w w') : RfP w0 w' bm bs m x v L :=
  ⟨h.mix.upd hu id, h.seed.upd hu id, own_upd h.row hu fun _ _ => id, h.old, h.upd.trans hu fun _ _ h => h⟩
theorem RfP.next (h : RfP w0 w bm bs m x v L) (hu : Upd Nowhere w W) :
    Calls Tryd.prog 13 #[.pointer (some ⟨bs, 0, none⟩)] W fun e w' => e = .returned (.int .i64 (pick x)) ∧ RfP w0 w' bm bs m (nx x) v L := by
  have hf := h.far hu
  refine (next_ok bs x W hf.seed).mono ?_
  rintro e w' ⟨he, hs, hq⟩
  refine ⟨he, hf.mix.upd hq fun e => hf.mix.ne_ hf.seed (by decide) e, hs, own_upd hf.row hq fun k hk e => by subst e; exact own_blk_ne hf.row hf.seed (by decide) hk, hf.old, hf.upd.trans hq fun k hk e => ?_⟩
  have := hf.old bs (.inr (.inl rfl))
  omega
theorem RfP.app1 (h : RfP w0 w bm bs m x v L) (a : ActD) (hn : L.length + 1 ≤ 100000) :
    ∃ v' w', (Builtin.append_ #[25, 25] 25 #[v, .slice (some ⟨w.heap.size, 0, none⟩) 1 1]).run Tryd.prog (w.alloc (.cells #[.int .i64 a.kind, .int .i64 a.n, .int .i64 0, .int .u8 0, .int .i64 a.tx, .string a.key, .bool a.has, .string a.data, .slice none 0 0, .bool false, .int .i64 0] 39)) = .ok v' w' ∧ RfP w0 w' bm bs m x v' (L ++ [a]) := by
  have hf := h.far ((Upd.refl Nowhere w).alloc (.cells #[.int .i64 a.kind, .int .i64 a.n, .int .i64 0, .int .u8 0, .int .i64 a.tx, .string a.key, .bool a.has, .string a.data, .slice none 0 0, .bool false, .int .i64 0] 39))
  have hb := Blk.new w 39 #[.int .i64 a.kind, .int .i64 a.n, .int .i64 0, .int .u8 0, .int .i64 a.tx, .string a.key, .bool a.has, .string a.data, .slice none 0 0, .bool false, .int .i64 0]
  obtain ⟨v', w1, hrun, ho, hu, hv⟩ := run_append_acts _ v L.length (flatA L) hf.row ⟨w.heap.size, 0, none⟩ 1 1 (flatA [a]) (by simp [flatA, ActD.cells]) (fun j u hj => by
    have e : (⟨w.heap.size, 0, none⟩ : Addr).add j = ⟨w.heap.size, j, none⟩ := by unfold Addr.add; split <;> simp_all
    rw [e, hb.cell j]
    simpa [flatA, ActD.cells] using hj) (flatA_one _) hn
  refine ⟨v', w1, hrun, hf.mix.upd hu fun e => own_blk_ne hf.row hf.mix (by decide) e, hf.seed.upd hu fun e => own_blk_ne hf.row hf.seed (by decide) e, ?_, fun k hk => ?_, hf.upd.trans hu fun k hk e => ?_⟩
  · rw [flatA_append, List.length_append]
    exact ho
  · rcases hk with hk | hk | hk
    · exact hf.old k (.inl hk)
    · exact hf.old k (.inr (.inl hk))
    · rcases hv k hk with h1 | h1
      · exact hf.old k (.inr (.inr h1))
      · have := hf.upd.size; omega
  · have := hf.old k (.inr (.inr e)); omega
theorem RfP.start {bm bs : Nat} (hm : Blk w bm 24 #[.int .i64 m.nodes, .int .i64 m.txs, .int .i64 m.steps, .int .i64 m.keys, .int .i64 m.writes, .int .i64 m.quits, .int .i64 m.drops, .int .i64 m.falls]) (hs : Blk w bs 53 #[.int .u64 x]) (h1 : w0.heap.size ≤ bm) (h2 : w0.heap.size ≤ bs) (hu : Upd Nowhere w0 w) : RfP w0 w bm bs m x (.slice none 0 0) [] :=
  ⟨hm, hs, World.ownsRow_nil _ _ _ _, (fun k hk => by
    rcases hk with rfl | rfl | hk
    · exact h1
    · exact h2
    · cases hk), hu⟩
end
end Go.Proofs.YtlboobboacjnmaaDoor
