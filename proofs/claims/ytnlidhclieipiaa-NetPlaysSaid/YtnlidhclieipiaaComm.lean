import Derived.Conc.LoneCalls
import Derived.Conc.LoneSelect
import Derived.Tactics
import Derived.Orders
import Derived.WalkKit
namespace Go.Proofs.Ytnlidhclieipiaa
open Go Go.Conc Go.RowKit

/-- A communication that is done at once: the machine of one goroutine goes on with the value v in the world w₂. -/
def Commd (P : Program) (cases : Array CommCase) (blocking : Bool) (shape : CommShape) (w₁ : World) (v : Value) (w₂ : World) : Prop :=
  ∀ (fr : Frame) (cs : List Frame) (w : World) (es : Array Event), stepG P true (G fr cs) w = .comm (G fr cs) cases blocking shape w₁ es →
    step P (lone fr cs w) = .next (lone (fr.finish v) cs w₂)

def CommStep (P : Program) (o : Oper) (a : Act) (w : World) (K : Act → World → Prop) : Prop :=
  ∃ cases blocking shape w₁ v w₂, (execOp a.eval o).run P w = .ok (.comm cases blocking shape) w₁ ∧ Commd P cases blocking shape w₁ v w₂ ∧ K (a.put o.dst v) w₂

/-- What holds from the middle of a region on. -/
def OpsWp (P : Program) (ops : Array Oper) (Q : Exit → Act → World → Prop) (l : List Nat) (a : Act) (w : World) : Prop :=
  ∀ (b : Frame) (k : List Item) (cs : List Frame), ∃ e a' w', Q e a' w' ∧ Arrives P (lone (b.at a (.inRegion ops l :: k)) cs w) b k cs e a' w'

section
variable {P : Program} {ops : Array Oper} {Q : Exit → Act → World → Prop}

theorem OpsWp.of_ops {l : List Nat} {a : Act} {w : World} (h : wpOps P ops Q l a w) : OpsWp P ops Q l a w := fun b k cs => wp_ops l a w h b k cs

theorem OpsWp.comm {i : Nat} {rest : List Nat} {o : Oper} {a : Act} {w : World} (ho : ops[i]? = some o) (hg : o.guard = none) (h : CommStep P o a w (OpsWp P ops Q rest)) : OpsWp P ops Q (i :: rest) a w := by
  intro b k cs
  obtain ⟨cases, blocking, shape, w₁, v, w₂, hr, hc, hK⟩ := h
  have hw : Region.wanted o (yielded ops a.tmps) = true := by simp [Region.wanted, hg]
  obtain ⟨e, a', w', hq, harr⟩ := hK b k cs
  have hfin : (b.at a (.inRegion ops (i :: rest) :: k)).finish v = b.at (a.put o.dst v) (.inRegion ops rest :: k) := by rw [Frame.finish_at, ho]; rfl
  have hstep : ∃ es, stepG P true (G (b.at a (.inRegion ops (i :: rest) :: k)) cs) w = .comm (G (b.at a (.inRegion ops (i :: rest) :: k)) cs) cases blocking shape w₁ es := by
    by_cases hk : b.kind = .early
    · have hk' : (b.kind == CallKind.early) = true := by simpa using hk
      exact ⟨seen P b.fn #[], by rw [stepG_oper ho hw]; simp [stepG.apply, hr, G, Frame.at, hk', GStep.after]⟩
    · exact ⟨_, stepG_comm ho hw hk hr⟩
  obtain ⟨es, hstep⟩ := hstep
  refine ⟨e, a', w', hq, .of_steps (.one ?_) harr⟩
  rw [hc _ _ _ _ hstep, hfin]

/-- Plain operations first, then whatever is known of the rest. -/
theorem OpsWp.append {l₂ : List Nat} (l₁ : List Nat) : ∀ (a : Act) (w : World), wpOps P ops (Exit.then (OpsWp P ops Q l₂) Q) l₁ a w → OpsWp P ops Q (l₁ ++ l₂) a w := by
  induction l₁ with
  | nil => exact fun a w h => h
  | cons i rest ih =>
    intro a w h b k cs
    simp only [wpOps] at h
    have todo : ∀ (m : Machine) (a₁ : Act) (w₁ : World), Steps P (lone (b.at a (.inRegion ops (i :: (rest ++ l₂)) :: k)) cs w) (lone (b.at a₁ (.inRegion ops (rest ++ l₂) :: k)) cs w₁) →
        wpOps P ops (Exit.then (OpsWp P ops Q l₂) Q) rest a₁ w₁ → ∃ e a' w', Q e a' w' ∧ Arrives P (lone (b.at a (.inRegion ops (i :: (rest ++ l₂)) :: k)) cs w) b k cs e a' w' := by
      intro _ a₁ w₁ hs hK
      obtain ⟨e, a', w', hq, harr⟩ := ih a₁ w₁ hK b k cs
      exact ⟨e, a', w', hq, .of_steps hs harr⟩
    have todo := todo default
    have lets : LetsOut (Exit.then (OpsWp P ops Q l₂) Q) → ∃ a w, Q .outgrown a w := fun ⟨a, w, h⟩ => ⟨a, w, h⟩
    rw [List.cons_append]
    cases ho : ops[i]? with
    | none =>
      simp only [ho] at h
      have hs := step_op_skip (P := P) (b := b) (a := a) (k := k) (cs := cs) (w := w) (ops := ops) (i := i) (rest := rest ++ l₂) (by simp [ho])
      simp only [ho, Option.bind_none, Act.put] at hs
      exact todo _ _ (.one hs) h
    | some o =>
      simp only [ho] at h
      have hfin : ∀ v, (b.at a (.inRegion ops (i :: (rest ++ l₂)) :: k)).finish v = b.at (a.put o.dst v) (.inRegion ops (rest ++ l₂) :: k) := by
        intro v; rw [Frame.finish_at, ho]; rfl
      by_cases hw : Region.wanted o (yielded ops a.tmps) = true
      · simp only [hw, if_true] at h
        have hg := stepG_op (P := P) (b := b) (k := k) (cs := cs) (w := w) (rest := rest ++ l₂) ho hw
        rcases h with h | ⟨hasks, hlet⟩
        · simp only [Oper.wp] at h
          cases hr : (execOp a.eval o).run P w with
          | halt x w₁ =>
            rw [hr] at h
            cases x with
            | panic v =>
              refine ⟨_, a, w₁, h, .inRegion ops (i :: (rest ++ l₂)) :: k, .one (step_lone_go ?_)⟩
              rw [hg, ← Frame.raise_at]; simp [stepG.apply, hr]
            | _ => exact h.elim
          | ok n w₁ =>
            rw [hr] at h
            cases n with
            | value v =>
              refine todo _ _ (.one (step_lone_go ?_)) h
              rw [hg, ← hfin]; simp [stepG.apply, hr]
            | skip =>
              refine todo _ _ (.one (step_lone_go ?_)) h
              rw [hg, ← hfin]; simp [stepG.apply, hr]
            | defer d =>
              refine todo _ _ (.one (step_lone_go ?_)) h
              have he : ({ b.at a (.inRegion ops (i :: (rest ++ l₂)) :: k) with defers := d :: a.defers } : Frame).finish undef =
                  b.at ({ a with defers := d :: a.defers }.put o.dst undef) (.inRegion ops (rest ++ l₂) :: k) := by
                have := Frame.finish_at b { a with defers := d :: a.defers } ops i (rest ++ l₂) k undef
                rw [ho] at this; exact this
              rw [hg]; simp only [stepG.apply, Sem.runT_eq, hr, GStep.bare_after]
              exact congrArg (fun fr => GStep.go { frame := fr, callers := cs, status := .running, dying := none } w₁) he
            | enter f args =>
              obtain ⟨e, w'', fr, hR, hsteps, _, hleave⟩ := h (b.at a (.inRegion ops (i :: (rest ++ l₂)) :: k) :: cs)
              have henter : step P (lone (b.at a (.inRegion ops (i :: (rest ++ l₂)) :: k)) cs w) =
                  .next (lone (Frame.enter P f args .normal) (b.at a (.inRegion ops (i :: (rest ++ l₂)) :: k) :: cs) w₁) :=
                step_lone_go (by rw [hg]; simp [stepG.apply, hr, Frame.at])
              cases e with
              | returned v =>
                refine todo _ _ (.head henter (Steps.trans hsteps (.one ?_))) hR
                rw [← hfin]; exact step_leave_returned hleave
              | panicked chain =>
                refine ⟨.panic chain, a, w'', hR, .inRegion ops (i :: (rest ++ l₂)) :: k, .head henter (Steps.trans hsteps (.one ?_))⟩
                rw [← Frame.raise_at]; exact step_leave_panicked hleave
              | outgrown =>
                obtain ⟨a₀, w₀, hq⟩ := lets hR
                exact ⟨.outgrown, a₀, w₀, hq, .inr (Outgrown.of_steps (.one henter) hsteps)⟩
            | row row args =>
              obtain ⟨v, w'', hR, hsteps⟩ := h (b.at a (.inRegion ops (i :: (rest ++ l₂)) :: k)) cs
              have henter : step P (lone (b.at a (.inRegion ops (i :: (rest ++ l₂)) :: k)) cs w) =
                  .next (lone (Frame.ofRow P row args .normal) (b.at a (.inRegion ops (i :: (rest ++ l₂)) :: k) :: cs) w₁) :=
                step_lone_go (by rw [hg]; simp [stepG.apply, hr, Frame.at])
              refine todo _ _ (.head henter ?_) hR
              rw [← hfin]; exact hsteps
            | _ => exact h.elim
        · obtain ⟨a₀, w₀, hq⟩ := lets hlet
          by_cases hk : b.kind = .early
          · exact ⟨.outgrown, a₀, w₀, hq, .inl hk⟩
          · exact ⟨.outgrown, a₀, w₀, hq, .inr (asks_outgrown ho hw hk hasks)⟩
      · simp only [hw, if_false, Bool.false_eq_true] at h
        have hs := step_op_skip (P := P) (b := b) (a := a) (k := k) (cs := cs) (w := w) (ops := ops) (i := i) (rest := rest ++ l₂) (by simp [ho]; simpa using hw)
        simp only [ho, Option.bind_some] at hs
        exact todo _ _ (.one hs) h

/-- The operations of a list of places, one after the other. -/
theorem wpOps_eq_picked (l : List Nat) (h : ∀ i ∈ l, i < ops.size) : wpOps P ops Q l = wpList P ops Q (l.filterMap (ops[·]?)) := by
  induction l with
  | nil => funext a w; simp [wpOps, wpList]
  | cons i l ih =>
    have hi : ops[i]? = some (ops[i]'(h i (by simp))) := Array.getElem?_eq_getElem _
    have ih' := ih (fun j hj => h j (by simp [hj]))
    funext a w
    simp only [wpOps, hi, List.filterMap_cons, wpList, ih']

theorem wpList_mono {L : List Oper} {Q₁ Q₂ : Exit → Act → World → Prop} (hq : ∀ e a w, Q₁ e a w → Q₂ e a w) : ∀ a w, wpList P ops Q₁ L a w → wpList P ops Q₂ L a w := by
  induction L with
  | nil => intro a w h; exact hq _ _ _ h
  | cons o' L ih =>
    intro a w h
    simp only [wpList] at h ⊢
    split
    · rename_i hw
      rw [if_pos hw] at h
      rcases h with h | ⟨h1, a₀, w₀, h2⟩
      · left
        simp only [Oper.wp] at h ⊢
        cases hr : (execOp a.eval o').run P w with
        | halt x w₁ => rw [hr] at h; cases x <;> first | exact hq _ _ _ h | exact h.elim
        | ok n w₁ =>
          rw [hr] at h
          cases n <;> first | exact ih _ _ h | exact h.elim | skip
          · refine Calls.mono h fun e w' he => ?_
            cases e with
            | returned v => exact ih _ _ he
            | panicked c => exact hq _ _ _ he
            | outgrown => obtain ⟨a, w, h⟩ := he; exact ⟨a, w, hq _ _ _ h⟩
          · exact Rows.mono h fun v w' he => ih _ _ he
      · exact .inr ⟨h1, a₀, w₀, hq _ _ _ h2⟩
    · rename_i hw
      rw [if_neg hw] at h
      exact ih _ _ h

theorem picked_range' (l : List Oper) : ∀ (k m : Nat), k + m ≤ l.length → (List.range' k m).filterMap (l.toArray[·]?) = (l.drop k).take m := by
  intro k m
  induction m generalizing k with
  | zero => simp
  | succ m ih =>
    intro h
    rw [List.range'_succ, List.filterMap_cons]
    have hk : l.toArray[k]? = some (l[k]'(by omega)) := by simp
    rw [hk, ih (k + 1) (by omega), List.drop_eq_getElem_cons (i := k) (by omega : k < l.length), List.take_succ_cons]

/-- A region with a communication in it, at place n: what stands ahead of it; then it; then the rest. -/
theorem wp_region_comm {id : Nat} {l : List Oper} {a : Act} {w : World} (n : Nat) {o : Oper} (ho : l[n]? = some o) (hg : o.guard = none)
    (h : wpList P l.toArray (Exit.then (fun a w => CommStep P o a w (wpList P l.toArray Q (l.drop (n + 1)))) Q) (l.take n) a w) : (Code.region id l.toArray false).wp P Q a w := by
  have hn : n < l.length := (List.getElem?_eq_some_iff.1 ho).1
  have e1 : (List.range' 0 n).filterMap (l.toArray[·]?) = l.take n := by
    have := picked_range' l 0 n (by omega)
    simpa using this
  have e2 : (List.range' (n + 1) (l.length - (n + 1))).filterMap (l.toArray[·]?) = l.drop (n + 1) := by
    have := picked_range' l (n + 1) (l.length - (n + 1)) (by omega)
    rw [this]
    exact List.take_of_length_le (by simp)
  have key : OpsWp P l.toArray Q (List.range' 0 n ++ n :: List.range' (n + 1) (l.length - (n + 1))) a w := by
    refine OpsWp.append _ a w ?_
    rw [wpOps_eq_picked _ (fun i hi => by simp at hi ⊢; omega), e1]
    · have hQ : ∀ (a : Act) (w : World), CommStep P o a w (wpList P l.toArray Q (l.drop (n + 1))) → OpsWp P l.toArray Q (n :: List.range' (n + 1) (l.length - (n + 1))) a w := by
        intro a w hc
        refine OpsWp.comm (o := o) (by simpa using ho) hg ?_
        obtain ⟨cases, blocking, shape, w₁, v, w₂, h1, h2, h3⟩ := hc
        refine ⟨cases, blocking, shape, w₁, v, w₂, h1, h2, OpsWp.of_ops ?_⟩
        rw [wpOps_eq_picked _ (fun i hi => by simp at hi ⊢; omega), e2]
        exact h3
      refine wpList_mono ?_ a w h
      intro e a w he
      cases e <;> first | exact hQ _ _ he | exact he
  intro b k cs
  obtain ⟨e, a', w', hq, harr⟩ := key b k cs
  refine ⟨e, a', w', hq, .of_steps (.one step_region) ?_⟩
  have er : List.range l.toArray.size = List.range' 0 n ++ n :: List.range' (n + 1) (l.length - (n + 1)) := by
    have : (List.range' 0 n ++ List.range' n (l.length - n)) = List.range' 0 l.length := by
      have := List.range'_append_1 (s := 0) (m := n) (n := l.length - n)
      simpa [show n + (l.length - n) = l.length by omega] using this
    rw [show l.toArray.size = l.length by simp, List.range_eq_range', ← this, show l.length - n = (l.length - (n + 1)) + 1 by omega, List.range'_succ]
  rw [er]
  exact harr
end

/-! ### which communications are done at once -/
section
variable {P : Program} {w₁ : World} {c cap s r : Nat} {buf : Array Value} {z v : Value} {tm closed : Bool}
theorem Commd.send (hc : w₁.heap[c]? = some (.chan cap buf false s r tm)) (hroom : buf.size < cap) :
    Commd P #[scase c v z] true .send w₁ undef (w₁.setChan c cap (buf.push v) false (s + 1) r tm) := fun _ _ _ _ h => step_lone_send_room h hc hroom
theorem Commd.recv (hc : w₁.heap[c]? = some (.chan cap buf closed s r tm)) (hsome : 0 < buf.size) :
    Commd P #[rcase c z] true (.recv false) w₁ (buf.getD 0 undef) (w₁.setChan c cap (buf.extract 1 buf.size) closed s (r + 1) tm) := fun _ _ _ _ h => step_lone_recv_buf false h hc hsome
theorem Commd.sel_room (hc : w₁.heap[c]? = some (.chan cap buf false s r tm)) (hroom : buf.size < cap) :
    Commd P #[scase c v z] false .select w₁ (.tuple #[goInt 0, .bool false]) (w₁.setChan c cap (buf.push v) false (s + 1) r tm) := fun _ _ _ _ h => step_lone_select_send_room h hc hroom
theorem Commd.sel_full (hc : w₁.heap[c]? = some (.chan cap buf false s r tm)) (hfull : cap ≤ buf.size) :
    Commd P #[scase c v z] false .select w₁ (.tuple #[goInt (-1), .bool false]) w₁ := fun _ _ _ _ h => step_lone_select_send_full h hc hfull
end

section
variable {P : Program} {o : Oper} {a : Act} {w : World} {c : Nat} {v z : Value}
theorem run_select1 {ch x : Operand} {elem : TypeId} (ho : o.op = .select #[{ chan := ch, send := some x, elem := elem }] false) (hch : a.eval ch = .chan (some c)) (hx : a.eval x = v) (hz : (zeroValue elem).run P w = .ok z w) :
    (execOp a.eval o).run P w = .ok (.comm #[scase c v z] false .select) w := by
  simp [execOp, ho, hch, hx, hz, scase]
theorem run_send1 {ch x : Operand} (ho : o.op = .send ch x) (hch : a.eval ch = .chan (some c)) (hx : a.eval x = v) :
    (execOp a.eval o).run P w = .ok (.comm #[scase c v (.tuple #[])] true .send) w := by
  simp [execOp, ho, hch, hx, scase]
theorem run_recv1 {t elem : TypeId} {dir : ChanDir} {ch : Operand} (ho : o.op = .recv t ch false) (ht : P.underlying t = some (.chan dir elem)) (hch : a.eval ch = .chan (some c)) (hz : (zeroValue elem).run P w = .ok z w) :
    (execOp a.eval o).run P w = .ok (.comm #[rcase c z] true (.recv false)) w := by
  simp [execOp, ho, hch, hz, rcase, run_underlying ht]
end

/-! ### all orders of a region that draws its order -/
def orders (md : Region.Mode) (ops : Array Oper) : Nat → Array Bool → List (List Nat)
  | 0, _ => [[]]
  | fuel + 1, listed =>
    if Region.ready md ops listed = [] then [[]]
    else (Region.ready md ops listed).flatMap fun i => (orders md ops fuel (listed.setIfInBounds i true)).map (i :: ·)

theorem mem_orders (md : Region.Mode) (ops : Array Oper) : ∀ (fuel t : Nat) (listed : Array Bool), Region.linearise.go md ops fuel t listed [] ∈ orders md ops fuel listed := by
  intro fuel
  induction fuel with
  | zero => intro t listed; simp [Region.linearise.go, orders]
  | succ fuel ih =>
    intro t listed
    simp only [Region.linearise.go, orders]
    change (match (Region.ready md ops listed)[t % (Region.ready md ops listed).length]? with
      | some i => Region.linearise.go md ops fuel (t / (Region.ready md ops listed).length) (listed.setIfInBounds i true) [i]
      | none => [].reverse) ∈ _
    by_cases hnil : Region.ready md ops listed = []
    · simp [hnil]
    · rw [if_neg hnil]
      have hlt : t % (Region.ready md ops listed).length < (Region.ready md ops listed).length := Nat.mod_lt _ (List.length_pos_iff.2 hnil)
      rw [List.getElem?_eq_getElem hlt]
      simp only []
      rw [linearise_go_acc]
      refine List.mem_flatMap.2 ⟨_, List.getElem_mem hlt, ?_⟩
      exact List.mem_map.2 ⟨_, ih _ _, rfl⟩

theorem wp_region_orders {P : Program} {id : Nat} {ops : Array Oper} {Q : Exit → Act → World → Prop} {a : Act} {w : World} (hm : P.follows .mixedOrders = true)
    (h : ∀ l ∈ orders .any ops ops.size (Array.replicate ops.size false), OpsWp P ops Q l a w.drew) : (Code.region id ops true).wp P Q a w := by
  intro b k cs
  have hl := mem_orders .any ops ops.size (w.tape w.drawn (.order b.fn id)) (Array.replicate ops.size false)
  obtain ⟨e, a', w', hq, harr⟩ := h _ hl b k cs
  refine ⟨e, a', w', hq, .of_steps (.one step_region_draw) ?_⟩
  simp only [Region.schedule, hm, Bool.true_or, if_true]
  exact harr
theorem wp_region_orders' {P : Program} {id : Nat} {ops : Array Oper} {Q : Exit → Act → World → Prop} {a : Act} {w : World} (L : List (List Nat)) (hm : P.follows .mixedOrders = true)
    (hL : orders .any ops ops.size (Array.replicate ops.size false) = L) (h : ∀ l ∈ L, OpsWp P ops Q l a w.drew) : (Code.region id ops true).wp P Q a w := wp_region_orders hm (by rw [hL]; exact h)

/-- The communication is the last of them. -/
theorem OpsWp.last_comm {P : Program} {ops : Array Oper} {Q : Exit → Act → World → Prop} {a : Act} {w : World} {o : Oper} (is : List Nat) (n : Nat) (hb : ∀ i ∈ is, i < ops.size) (ho : ops[n]? = some o) (hg : o.guard = none)
    (h : wpList P ops (Exit.then (fun a w => CommStep P o a w (Q .normal)) Q) (is.filterMap (ops[·]?)) a w) : OpsWp P ops Q (is ++ [n]) a w := by
  refine OpsWp.append _ a w ?_
  rw [wpOps_eq_picked _ hb]
  refine wpList_mono ?_ a w h
  intro e a w he
  cases e <;> first | exact he | skip
  refine OpsWp.comm ho hg ?_
  obtain ⟨cases, blocking, shape, w₁, v, w₂, h1, h2, h3⟩ := he
  exact ⟨cases, blocking, shape, w₁, v, w₂, h1, h2, OpsWp.of_ops h3⟩
end Go.Proofs.Ytnlidhclieipiaa
