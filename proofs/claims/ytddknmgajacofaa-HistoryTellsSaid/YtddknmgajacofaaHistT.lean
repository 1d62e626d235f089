/-
  History: what the statements do with their arguments: too much of them, and copies.
-/
import Derived.Test.YtddknmgajacofaaHistL
import Derived.Test.YtddknmgajacofaaAwake26
namespace Go.Proofs.Ytddknmgajacofaa
open Go Go.RowKit

theorem append_none {P : Program} {TS TE : TypeId} {sz : Nat} (hund : P.underlying TS = some (.slice TE)) (hz : ∀ W, (sizeOf TE).run P W = .ok sz W) (ty : TypeId) (W : World) (B : Option Addr) (n cap c : Nat) (hn : n ≤ cap) : (Builtin.append_ #[TS, TS] ty #[.slice B n cap, .slice none 0 c]).run P W = .ok (.slice B n cap) W := by
  have hu : (underlying TS).run P W = .ok (.slice TE) W := by simp [underlying, hund]
  cases B with
  | none => simp [Builtin.append_, Sem.run_bind, hu, hz, Result.andThen, Builtin.lenOf, hn, Builtin.firstCells]
  | some a => simp [Builtin.append_, Sem.run_bind, hu, hz, Result.andThen, Builtin.lenOf, hn, Builtin.firstCells, storeCells]
/-- append([]T{}, l...): a copy. -/
theorem RowK.copy {P : Program} {TS TE : TypeId} {α : Type} {cells : α → List Value} {sz : Nat} (R : RowK P TS TE cells sz) (hz : ∀ W, (sizeOf TE).run P W = .ok sz W) {w : World} {v : Value} {L : List α} (h : Els sz cells w v L) (hn : L.length ≤ 100000) (ty : TypeId) :
    ∃ v' w', (Builtin.append_ #[TS, TS] ty #[.slice (some ⟨w.heap.size, 0, none⟩) 0 0, v]).run P (w.alloc (.cells #[] TE)) = .ok v' w' ∧ OwnR TE cells sz w.heap.size w' v' L ∧ Upd Nowhere w w' := by
  have hb := Blk.new w TE #[]
  have hu0 : Upd Nowhere w (w.alloc (.cells #[] TE)) := (Upd.refl _ w).alloc _
  have ho : OwnR TE cells sz w.heap.size (w.alloc (.cells #[] TE)) (.slice (some ⟨w.heap.size, 0, none⟩) 0 0) ([] : List α) :=
    ⟨⟨by simp, .inr ⟨w.heap.size, 0, #[], rfl, Nat.zero_le _, hb, Nat.le_refl _, Nat.zero_le _, by simp, by simp⟩⟩, fun k hk => by simp [Value.ownBlock] at hk; omega⟩
  have fin : ∀ (ad : Addr) (c : Nat), (∀ j u, (L.flatMap cells)[j]? = some u → w.cell? (ad.add j) = some u ∧ (ad.add j).block < w.heap.size) → v = .slice (some ad) L.length c →
      ∃ v' w', (Builtin.append_ #[TS, TS] ty #[.slice (some ⟨w.heap.size, 0, none⟩) 0 0, v]).run P (w.alloc (.cells #[] TE)) = .ok v' w' ∧ OwnR TE cells sz w.heap.size w' v' L ∧ Upd Nowhere w w' := fun ad c hK hv => by
    subst hv
    obtain ⟨v', w', h1, h2, h3, h4⟩ := R.app ho (by simp) ty ad L.length c L rfl (fun j u hj => by
      obtain ⟨h5, h6⟩ := hK j u hj
      rw [World.cell?_of_block (Below.heap_alloc w _ _ h6)]
      exact h5) (by simpa using hn)
    refine ⟨v', w', h1, by simpa using h2, hu0.grown h3 fun k hk hlt => ?_⟩
    simp [Value.ownBlock] at hk
    omega
  by_cases hL : L = []
  · subst hL
    obtain ⟨A, c, rfl, hc⟩ := h.val
    cases A with
    | none => exact ⟨_, _, append_none R.und hz ty _ _ 0 0 c (Nat.le_refl _), ho, hu0⟩
    | some ad => exact fin ad c (fun j u hj => by simp at hj) rfl
  · obtain ⟨b, off, c, hv, hb2, hq⟩ := Reads.addr h (List.length_pos_iff.2 hL)
    refine fin ⟨b, off, none⟩ c (fun j u hj => ?_) hv
    have e : (⟨b, off, none⟩ : Addr).add j = ⟨b, off + j, none⟩ := by unfold Addr.add; split <;> simp_all
    rw [e]
    exact ⟨hq j u hj, hb2⟩

/-- Is there too much to be played? -/
def bigE (e : EvD) : Bool := decide (100 < e.key.size) || decide (100 < e.data.size)
def greatB (l : List EvD) : Bool := decide (60 < l.length) || l.any bigE

set_option maxHeartbeats 2000000 in
theorem great_ok {w : World} {v : Value} {l : List EvD} (h : EvsE w v l) : Calls Try.prog 5 #[v] w fun e w' => e = .returned (.bool (greatB l)) ∧ w' = w := by
  obtain ⟨A, c, rfl, hc⟩ := h.val
  have H := Lib.hid h
  clear h
  go_enter Try.func5, Try.ntmps5
  by_cases hbig : 60 < l.length
  · have hb : (60 : Int) < (l.length : Nat) := by omega
    have HG : Hid (greatB l = true) := Lib.hid (by simp [greatB, hbig])
    go_wp2_with fail
    go_ret
    exact ⟨by rw [HG.out]; rfl, rfl⟩
  · have hb : ¬ (60 : Int) < (l.length : Nat) := by omega
    go_wp2_with fail
    go_loopw [3] (fun s wr => ∃ k : Nat, k ≤ l.length ∧ s = .int .i64 k ∧ (∀ i e, i < k → l[i]? = some e → bigE e = false) ∧ wr = w) (fun s _ => l.length - (intOf s).toNat)
    case atStart => exact ⟨0, by omega, rfl, fun i e h => by omega, rfl⟩
    case round =>
      obtain ⟨k, hk, rfl, hno, rfl⟩ := hrel
      have HN : Hid (∀ i e, i < k → l[i]? = some e → bigE e = false) := Lib.hid hno
      clear hno
      by_cases hlt : k < l.length
      · obtain ⟨e, he⟩ : ∃ e, l[k]? = some e := ⟨_, List.getElem?_eq_getElem hlt⟩
        obtain ⟨b, off, c', hE, hb, q0, q1, q2, q3, q4⟩ := event_at H.out he
        cases hE
        have hi : (k : Int) < (l.length : Nat) := by omega
        by_cases h1 : 100 < e.key.size
        · have h1' : (100 : Int) < (e.key.size : Nat) := by omega
          have HG : Hid (greatB l = true) := Lib.hid (by
            simp only [greatB, Bool.or_eq_true, List.any_eq_true]
            exact .inr ⟨e, List.mem_of_getElem? he, by simp [bigE, h1]⟩)
          clear h1 he
          go_wp2_with fail
          go_ret
          exact ⟨by rw [HG.out]; rfl, rfl⟩
        · have h1' : ¬ (100 : Int) < (e.key.size : Nat) := by omega
          by_cases h2 : 100 < e.data.size
          · have h2' : (100 : Int) < (e.data.size : Nat) := by omega
            have HG : Hid (greatB l = true) := Lib.hid (by
              simp only [greatB, Bool.or_eq_true, List.any_eq_true]
              exact .inr ⟨e, List.mem_of_getElem? he, by simp [bigE, h2]⟩)
            clear h1 h2 he
            go_wp2_with fail
            go_ret
            exact ⟨by rw [HG.out]; rfl, rfl⟩
          · have h2' : ¬ (100 : Int) < (e.data.size : Nat) := by omega
            have HX : Hid (∀ i e, i < k + 1 → l[i]? = some e → bigE e = false) := Lib.hid fun i e' hi' he' => by
              rcases (by omega : i < k ∨ i = k) with h | rfl
              · exact HN.out i e' h he'
              · rw [he] at he'; cases he'; simp [bigE]; omega
            clear h1 h2 he
            go_wp2_with fail
            go_roundw
            case rel => exact ⟨k + 1, by omega, by go_num, HX.out, trivial⟩
            case measure => simp [intOf]; omega
      · obtain rfl : k = l.length := by omega
        have hi : ¬ (l.length : Int) < (l.length : Nat) := by omega
        have HG : Hid (greatB l = false) := Lib.hid (by
          simp only [greatB, Bool.or_eq_false_iff]
          refine ⟨by simpa using hbig, ?_⟩
          rw [List.any_eq_false]
          intro e he
          obtain ⟨i, hi⟩ := List.mem_iff_getElem?.1 he
          simp [HN.out i e (List.getElem?_eq_some_iff.1 hi).1 hi])
        go_wp2_with fail
        go_ret
        exact ⟨by rw [HG.out]; rfl, rfl⟩

set_option maxHeartbeats 2000000 in
theorem own_ok {w : World} {v : Value} {l : List EvD} (h : EvsE w v l) (hl : l.length ≤ 1000) : Calls Try.prog 8 #[v] w fun e w' => ∃ v', e = .returned v' ∧ OwnE w.heap.size w' v' l ∧ Upd Nowhere w w' := by
  obtain ⟨v', w', h1, h2, h3⟩ := rkE.copy (Try.sizeOf41) h (by omega) 22
  obtain ⟨A, c, rfl, hc⟩ := h.val
  have HR := Lib.hid h1
  have H2 := Lib.hid h2
  have H3 := Lib.hid h3
  clear h h1 h2 h3
  go_enter Try.func8, Try.ntmps8
  go_wp2_with (at_builtin; refine wpList_append_run rfl _ _ _ rfl rfl rfl HR.out ?_)
  go_ret
  exact ⟨_, rfl, H2.out, H3.out⟩
end Go.Proofs.Ytddknmgajacofaa
