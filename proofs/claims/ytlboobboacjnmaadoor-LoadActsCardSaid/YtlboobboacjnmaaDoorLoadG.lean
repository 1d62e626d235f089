/-
  What a maker's calls do to memory, one behind the other.
-/
import Derived.Test.YtlboobboacjnmaaDoorLoadB
namespace Go.Proofs.YtlboobboacjnmaaDoor
open Go Go.RowKit

/-- From w, where the maker had the row v, to w': it has the acts L, and the seed x. -/
def Goes (w : World) (bx bs : Nat) (m : MixD) (v : Value) (x : Int) (L : List ActD) (w' : World) : Prop :=
  ∃ v', MkP w' bx bs m x v' L ∧ (∀ k, v'.ownBlock = some k → v.ownBlock = some k ∨ w.heap.size ≤ k) ∧ Upd (mfoot bx bs v) w w'

section
variable {w w1 w2 : World} {bx bs : Nat} {m : MixD} {v v1 : Value} {x x1 : Int} {L L1 : List ActD}
theorem Goes.refl (h : MkP w bx bs m x v L) : Goes w bx bs m v x L w := ⟨v, h, fun _ h => .inl h, Upd.refl _ w⟩
/-- A step that begins where the last one ended. -/
theorem Goes.more (h1 : (∀ k, v1.ownBlock = some k → v.ownBlock = some k ∨ w.heap.size ≤ k) ∧ Upd (mfoot bx bs v) w w1) (h2 : Goes w1 bx bs m v1 x L w2) : Goes w bx bs m v x L w2 := by
  obtain ⟨v2, hM, hv, hu⟩ := h2
  refine ⟨v2, hM, fun k hk => ?_, h1.2.trans hu fun k hk hf => ?_⟩
  · rcases hv k hk with h | h
    · exact h1.1 k h
    · have := h1.2.size
      exact .inr (by omega)
  · rcases hf with h | h | h
    · exact .inl h
    · exact .inr (.inl h)
    · rcases h1.1 k h with h | h
      · exact .inr (.inr h)
      · omega
end

/-- What is carried along: the row in hand is the old one or new, and only the maker's memory was changed. -/
def Going (w : World) (bx bs : Nat) (v v1 : Value) (w1 : World) : Prop := (∀ k, v1.ownBlock = some k → v.ownBlock = some k ∨ w.heap.size ≤ k) ∧ Upd (mfoot bx bs v) w w1
theorem Going.refl (w : World) (bx bs : Nat) (v : Value) : Going w bx bs v v w := ⟨fun _ h => .inl h, Upd.refl _ w⟩
theorem Going.draw {w w1 w2 : World} {bx bs : Nat} {v v1 : Value} (h : Going w bx bs v v1 w1) (hu : Upd (· = bs) w1 w2) : Going w bx bs v v1 w2 := ⟨h.1, h.2.trans hu fun _ _ h => .inr (.inl h)⟩
theorem Going.beside {F : Nat → Prop} {w w1 w2 : World} {bx bs : Nat} {v v1 : Value} (h : Going w bx bs v v1 w1) (hu : Upd F w1 w2) (hF : ∀ k, k < w.heap.size → ¬ F k) : Going w bx bs v v1 w2 := ⟨h.1, h.2.trans hu fun k hk hf => absurd hf (hF k hk)⟩
theorem Going.goes {w w1 w2 : World} {bx bs : Nat} {m : MixD} {v v1 : Value} {x : Int} {L : List ActD} (h : Going w bx bs v v1 w1) (hg : Goes w1 bx bs m v1 x L w2) : Goes w bx bs m v x L w2 := Goes.more h hg
theorem Goes.open_ {w w2 : World} {bx bs : Nat} {m : MixD} {v : Value} {x : Int} {L : List ActD} (h : Goes w bx bs m v x L w2) : ∃ v2, MkP w2 bx bs m x v2 L ∧ Going w bx bs v v2 w2 := by
  obtain ⟨v2, hM, h1, h2⟩ := h
  exact ⟨v2, hM, h1, h2⟩
theorem Goes.of {w w2 : World} {bx bs : Nat} {m : MixD} {v v2 : Value} {x : Int} {L : List ActD} (hM : MkP w2 bx bs m x v2 L) (h : Going w bx bs v v2 w2) : Goes w bx bs m v x L w2 := ⟨v2, hM, h.1, h.2⟩

set_option maxHeartbeats 1000000 in
/-- puts of one act that was laid just now. -/
theorem puts_one (bx bs : Nat) (m : MixD) (x : Int) (v : Value) (L : List ActD) (a : ActD) (w : World) (h : MkP w bx bs m x v L) (hn : L.length + 1 ≤ 100000) :
    Calls Tryd.prog 16 #[.pointer (some ⟨bx, 0, none⟩), .slice (some ⟨w.heap.size, 0, none⟩) 1 1] (w.alloc (.cells a.cells.toArray 39)) fun e w' => e = .returned (.tuple #[]) ∧ Goes w bx bs m v x (L ++ [a]) w' := by
  have hM := h.upd ((Upd.refl Nowhere w).alloc (.cells a.cells.toArray 39)) fun _ _ => id
  refine (puts_ok bx bs m x v L [a] ⟨w.heap.size, 0, none⟩ 1 _ hM (fun j u hj => ?_) (by simpa using hn)).mono ?_
  · have e : (⟨w.heap.size, 0, none⟩ : Addr).add j = ⟨w.heap.size, j, none⟩ := by unfold Addr.add; split <;> simp_all
    rw [e, (Blk.new w _ _).cell j]
    simpa [flatA] using hj
  · rintro e w' ⟨rfl, v', hM', hv, hu⟩
    refine ⟨rfl, v', hM', fun k hk => ?_, ((Upd.refl _ w).alloc _).trans hu fun k _ hk => ?_⟩
    · rcases hv k hk with h | h
      · exact .inl h
      · exact .inr (by simp at h; omega)
    · rcases hk with h | h
      · exact .inl h
      · exact .inr (.inr h)
theorem puts_one' (bx bs : Nat) (m : MixD) (x : Int) (v : Value) (L : List ActD) (a : ActD) (w : World) (h : MkP w bx bs m x v L) (hn : L.length + 1 ≤ 100000) {g : Nat} (hg : g = w.heap.size) :
    Calls Tryd.prog 16 #[.pointer (some ⟨bx, 0, none⟩), .slice (some ⟨g, 0, none⟩) 1 1] (w.alloc (.cells a.cells.toArray 39)) fun e w' => e = .returned (.tuple #[]) ∧ Goes w bx bs m v x (L ++ [a]) w' := by
  subst hg
  exact puts_one bx bs m x v L a w h hn
set_option maxHeartbeats 1000000 in
/-- puts of two acts that were laid just now. -/
theorem puts_two (bx bs : Nat) (m : MixD) (x : Int) (v : Value) (L : List ActD) (a b : ActD) (w : World) (h : MkP w bx bs m x v L) (hn : L.length + 2 ≤ 100000) :
    Calls Tryd.prog 16 #[.pointer (some ⟨bx, 0, none⟩), .slice (some ⟨w.heap.size, 0, none⟩) 2 2] (w.alloc (.cells (a.cells ++ b.cells).toArray 39)) fun e w' => e = .returned (.tuple #[]) ∧ Goes w bx bs m v x (L ++ [a, b]) w' := by
  have hM := h.upd ((Upd.refl Nowhere w).alloc (.cells (a.cells ++ b.cells).toArray 39)) fun _ _ => id
  refine (puts_ok bx bs m x v L [a, b] ⟨w.heap.size, 0, none⟩ 2 _ hM (fun j u hj => ?_) (by simpa using hn)).mono ?_
  · have e : (⟨w.heap.size, 0, none⟩ : Addr).add j = ⟨w.heap.size, j, none⟩ := by unfold Addr.add; split <;> simp_all
    rw [e, (Blk.new w _ _).cell j]
    simpa [flatA] using hj
  · rintro e w' ⟨rfl, v', hM', hv, hu⟩
    refine ⟨rfl, v', hM', fun k hk => ?_, ((Upd.refl _ w).alloc _).trans hu fun k _ hk => ?_⟩
    · rcases hv k hk with h | h
      · exact .inl h
      · exact .inr (by simp at h; omega)
    · rcases hk with h | h
      · exact .inl h
      · exact .inr (.inr h)
end Go.Proofs.YtlboobboacjnmaaDoor
