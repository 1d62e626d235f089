/-
  A round of a range over a function: its regions walked as everywhere (outside any fence).
-/
import Derived.Test.YtddknmgajacofaaLib
import Derived.RangeFuncNested
import Derived.RangeFuncBound
import Derived.RangeFuncCalls
import Derived.RangeFuncLeaves
import Derived.OwnWalkIn
import Derived.OrdersIn
import Derived.StillTail
import Derived.Deep.RegionHeld3
import Derived.Test.YtddknmgajacofaaMapM
namespace Go.Proofs.Ytddknmgajacofaa
open Go Go.RowKit

section
variable {P : Program} {r n : Nat} {Q : Exit → Act → World → Prop} {ops : Array Oper}
theorem rowsIn_round {row : String} {args : Array Value} {w : World} {R : Value → World → Prop} (h : Rows P row args w R) : RowsIn (Fence.wide.inRound r) n P row args w R := by
  intro c cs _
  obtain ⟨v, w', hr, hs⟩ := h c cs
  exact ⟨v, w', hr, (stepsIn_wide.2 hs : StepsIn (Machine.fenced P Fence.wide) P _ _)⟩
theorem uponIn_of_upon {o : Oper} {a : Act} {K : Act → World → Prop} {x : Result Next} (h : o.upon P a K Q x) : o.uponIn (Fence.wide.inRound r) n P a K Q x := by
  cases x with
  | halt e w => cases e <;> first | exact h | exact h.elim
  | ok nx w =>
    cases nx with
    | value v => exact h
    | skip => exact h
    | defer d => exact h
    | enter f args => exact ⟨fun hd => by simp [Fence.wide] at hd, CallsIn.inRound r (callsIn_wide.2 h)⟩
    | row row args => exact ⟨fun hd => by simp [Fence.wide] at hd, rowsIn_round h⟩
    | _ => exact h.elim
theorem operIn_of {o : Oper} (hd : ∀ c, o.op ≠ .defer c) {a : Act} {w : World} {K K' : Act → World → Prop} (hK : ∀ a w, K a w → K' a w) (h : o.wp P a w K Q) : o.wpIn (Fence.wide.inRound r) n P a w K' Q :=
  Oper.wpIn_mono hK ⟨fun _ _ => trivial, by rw [Oper.semAt_eq _ _ _ hd]; exact uponIn_of_upon h⟩
theorem wpListIn_of_plain (hno : ¬ LetsOut Q) : ∀ {l : List Oper} {a : Act} {w : World}, (∀ o ∈ l, ∀ c, o.op ≠ .defer c) → wpList P ops Q l a w → wpListIn (Fence.wide.inRound r) n P ops Q l a w
  | [], _, _, _, h => h
  | o :: l, a, w, hd, h => by
    unfold wpList at h
    unfold wpListIn
    by_cases hw : Region.wanted o (yielded ops a.tmps) = true
    · rw [if_pos hw] at h ⊢
      rcases h with h | h
      · exact operIn_of (hd o (List.mem_cons_self ..)) (fun a w h => wpListIn_of_plain hno (fun o ho => hd o (List.mem_cons_of_mem _ ho)) h) h
      · exact absurd h.2 hno
    · rw [if_neg hw] at h ⊢
      exact ⟨fun _ _ => trivial, wpListIn_of_plain hno (fun o ho => hd o (List.mem_cons_of_mem _ ho)) h⟩
theorem wpAnyIn_of_plain {md : Region.Mode} (hno : ¬ LetsOut Q) (hd : ∀ (i : Nat) (o : Oper), ops[i]? = some o → ∀ c, o.op ≠ Op.defer c) : ∀ (fuel : Nat) {listed : Array Bool} {a : Act} {w : World}, wpAny P md ops Q fuel listed a w → wpAnyIn (Fence.wide.inRound r) n P md ops Q fuel listed a w
  | 0, _, _, _, h => h
  | fuel + 1, listed, a, w, h => by
    refine ⟨h.1, fun i hi => ?_⟩
    have h1 := h.2 i hi
    unfold wpOp at h1
    unfold wpOpIn
    cases ho : ops[i]? with
    | none =>
      rw [ho] at h1
      exact wpAnyIn_of_plain hno hd fuel h1
    | some o =>
      rw [ho] at h1
      dsimp only at h1 ⊢
      by_cases hw : Region.wanted o (yielded ops a.tmps) = true
      · rw [if_pos hw] at h1 ⊢
        rcases h1 with h1 | h1
        · exact operIn_of (hd i o ho) (fun a w h => wpAnyIn_of_plain hno hd fuel h) h1
        · exact absurd h1.2 hno
      · rw [if_neg hw] at h1 ⊢
        exact ⟨fun _ _ => trivial, wpAnyIn_of_plain hno hd fuel h1⟩
end

section
variable {P : Program} {r n : Nat} {Q : Exit → Act → World → Prop} {a : Act} {w : World} {l : List Oper}
def noDefer (l : List Oper) : Bool := l.all fun o => match o.op with
  | .defer _ => false
  | _ => true
theorem noDefer_all (h : noDefer l = true) : ∀ o ∈ l, ∀ c, o.op ≠ .defer c := by
  intro o ho c e
  have := List.all_eq_true.1 h o ho
  rw [e] at this
  cases this
/-- A region of a round, in the order of the text. -/
theorem wpIn_region_plain {id : Nat} (hno : ¬ LetsOut Q) (hd : noDefer l = true) (h : wpList P l.toArray Q l a w) : (Code.region id l.toArray false).wpIn (Fence.wide.inRound r) n P Q a w :=
  wpIn_region_lit (wpListIn_of_plain hno (noDefer_all hd) h)
/-- A region of a round that draws its order: every order. -/
theorem wpIn_region_drawn_plain {id : Nat} (hno : ¬ LetsOut Q) (hd : noDefer l = true) (hm : P.follows .mixedOrders = true) (h : wpAny P .any l.toArray Q l.toArray.size (Array.replicate l.toArray.size false) a w.drew) : (Code.region id l.toArray true).wpIn (Fence.wide.inRound r) n P Q a w :=
  wpIn_region_any hm (wpAnyIn_of_plain hno (fun i o ho => noDefer_all hd o (by rw [List.getElem?_toArray] at ho; exact List.mem_of_getElem? ho)) _ h)
/-- .. with a condition on the world that is kept. -/
theorem wpIn_region_held_plain {id : Nat} {S : World → Prop} (hno : ¬ LetsOut Q) (hd : noDefer l = true) (hm : P.follows .mixedOrders = true) (hS : S w.drew)
    (h : S w.drew → wpAnyH P .any l.toArray Q S l.toArray.size (Array.replicate l.toArray.size false) a w.drew) : (Code.region id l.toArray true).wpIn (Fence.wide.inRound r) n P Q a w :=
  wpIn_region_drawn_plain hno hd hm (wpAny_of_held _ _ _ _ (h hS))
/-- A region of a round that draws its order: what reads first, in the order of the text; then the rest, one behind the other. -/
theorem wpIn_region_tail_plain {id : Nat} (m : Nat) (hno : ¬ LetsOut Q) (hd : noDefer l = true) (hm : P.follows .mixedOrders = true) (hB : Region.lexTailB .any l.toArray m = true)
    (h : wpStill P l.toArray w.drew (fun a' => wpList P l.toArray Q (l.drop m) a' w.drew) (l.take m) a) : (Code.region id l.toArray true).wpIn (Fence.wide.inRound r) n P Q a w := by
  simp only [Region.lexTailB, Bool.and_eq_true, decide_eq_true_eq] at hB
  obtain ⟨⟨⟨⟨hsel, hn⟩, hs⟩, hc⟩, hlex⟩ := hB
  have hn' : m < l.length := by simpa using hn
  have htl : (l.take m).length = m := by simp; omega
  have hdl : (l.drop m).length = l.toArray.size - m := by simp
  have inv0 : HeadInv .any l.toArray m (Array.replicate l.toArray.size false) :=
    ⟨by simp, fun j oj _ hl => (by rw [getD_replicate_false] at hl; cases hl), fun t _ ht => getD_in (by simpa using ht) (getD_replicate_false _ _)⟩
  have H := wpAnyL_lex (md := .any) (g := l.toArray.size - m) hsel hs hc hn (l.take m) 0 _ a (fun j hj => by
    have hj' : j < m := by rw [htl] at hj; exact hj
    simp [hj']) (by simpa using htl) inv0 (by rw [htl]; exact hlex) h
  refine wpIn_region_drawn_plain hno hd hm ?_
  have := wpAny_of_head (Q' := Q) (g := l.toArray.size - m) (fun listed a' hL => by
    have := wpAny_of_seq (md := .any) (Q' := Q) (l.drop m) m listed a' w.drew (fun j => by simp [List.getElem?_drop]) (by rw [hdl]; exact hL.1) hL.2
    rwa [hdl] at this) _ _ _ H
  rw [htl, show m + (l.toArray.size - m) = l.toArray.size by omega] at this
  exact this
end
section
variable {P : Program} {ops : Array Oper} {Q : Exit → Act → World → Prop} {a : Act} {w : World} {o : Oper} {K : Act → World → Prop} {E : Prop}
theorem step_lookup_run (hg : o.guard = none) (m x : Operand) (t : TypeId) (c : Bool) (ho : o.op = Op.lookup t m x c) {mv kv v : Value}
    (hm : a.eval m = mv) (hx : a.eval x = kv) (hrun : (Instr.lookup t mv kv c).run P w = .ok v w) (h : K (a.put o.dst v) w) :
    if Region.wanted o (yielded ops a.tmps) = true then Oper.wp P o a w K Q else E := by
  have hw : Region.wanted o (yielded ops a.tmps) = true := by simp [Region.wanted, hg]
  rw [if_pos hw]
  unfold Oper.wp
  simp only [execOp, ho, hm, hx, Sem.run_bind, hrun, Result.andThen, Sem.run_pure]
  exact h
theorem step_update_run (hg : o.guard = none) (m x y : Operand) (t : TypeId) (ho : o.op = Op.mapUpdate t m x y) {mv kv v : Value} {w' : World}
    (hm : a.eval m = mv) (hx : a.eval x = kv) (hy : a.eval y = v) (hrun : (Instr.mapUpdate t mv kv v).run P w = .ok () w') (h : K (a.put o.dst undef) w') :
    if Region.wanted o (yielded ops a.tmps) = true then Oper.wp P o a w K Q else E := by
  have hw : Region.wanted o (yielded ops a.tmps) = true := by simp [Region.wanted, hg]
  rw [if_pos hw]
  unfold Oper.wp
  simp only [execOp, ho, hm, hx, hy, Sem.run_bind, hrun, Result.andThen, Sem.run_pure]
  exact h
end
end Go.Proofs.Ytddknmgajacofaa
