/-
  A range over a map that is told by a function: the start, the step; maps.Copy of such maps.
-/
import Derived.Test.YtddknmgajacofaaMapM
import Derived.Maps.Range
namespace Go.Proofs.Ytddknmgajacofaa
open Go Go.RowKit Go.MapKept
open Go.ChangeMaps (setBlock)

/-- Block r ranges over the map in block b, which holds f; those of left are still to come, cnt of them. -/
def RangeIs {α : Type} (enc : α → Value) (w : World) (r b : Nat) (f : α → Option Value) (left : α → Prop) (cnt : Nat) : Prop :=
  ∃ es ck since seen c0, w.heap[b]? = some (.map es ck) ∧ Stamped es ck ∧ (∀ e ∈ es.toList, ∃ a, e.key = enc a) ∧ (∀ a v, f a = some v ↔ ∃ e ∈ es.toList, e.key = enc a ∧ e.val = v) ∧
    w.heap[r]? = some (.mapIter (some b) since seen c0) ∧ (∀ x ∈ es.toList, x.born < since) ∧ since ≤ c0 ∧ since ≤ ck ∧ (leftOf es seen).size = cnt ∧
    (∀ x ∈ es.toList, ∀ a, x.key = enc a → (left a ↔ seen.contains x.born = false)) ∧ (∀ a, left a → ∃ x ∈ es.toList, x.key = enc a)

section
variable {α : Type} {d : TypeDesc} {enc : α → Value} {w w' : World} {r b cnt : Nat} {f : α → Option Value} {left : α → Prop} {P : Program}
theorem RangeIs.map (h : RangeIs enc w r b f left cnt) : MapIs enc w b f := by
  obtain ⟨es, ck, since, seen, c0, h1, h2, h3, h4, _⟩ := h
  exact ⟨es, ck, h1, h2, h3, h4⟩
theorem RangeIs.ne (h : RangeIs enc w r b f left cnt) : r ≠ b := by
  obtain ⟨es, ck, since, seen, c0, h1, _, _, _, h2, _⟩ := h
  rintro rfl
  rw [h1] at h2; cases h2
theorem RangeIs.lt (h : RangeIs enc w r b f left cnt) : r < w.heap.size := by
  obtain ⟨es, ck, since, seen, c0, h1, _, _, _, h2, _⟩ := h
  exact lt_of_heap h2
theorem RangeIs.left_eq (h : RangeIs enc w r b f left cnt) : w.rangeLeft b r = cnt := by
  obtain ⟨es, ck, since, seen, c0, h1, _, _, _, h2, _, _, _, h3, _⟩ := h
  simp only [World.rangeLeft, h1, h2]
  exact h3
theorem RangeIs.kept (h : RangeIs enc w r b f left cnt) (hb : w'.heap[b]? = w.heap[b]?) (hr : w'.heap[r]? = w.heap[r]?) : RangeIs enc w' r b f left cnt := by
  obtain ⟨es, ck, since, seen, c0, h1, h2, h3, h4, h5, rest⟩ := h
  exact ⟨es, ck, since, seen, c0, hb.trans h1, h2, h3, h4, hr.trans h5, rest⟩
theorem RangeIs.upd {F : Nat → Prop} (h : RangeIs enc w r b f left cnt) (hu : Upd F w w') (hb : ¬ F b) (hr : ¬ F r) : RangeIs enc w' r b f left cnt :=
  h.kept (hu.block _ h.map.lt hb) (hu.block _ h.lt hr)
theorem RangeIs.mono {left' : α → Prop} (h : RangeIs enc w r b f left cnt) (e : ∀ a, left' a ↔ left a) : RangeIs enc w r b f left' cnt := by
  rw [show left' = left from funext fun a => propext (e a)]; exact h
/-- range m. -/
theorem MapIs.range (h : MapIs enc w b f) {t kt et : TypeId} (ht : P.underlying t = some (.map kt et)) :
    ∃ w' cnt, (Instr.range t (.map (some b))).run P w = .ok (.pointer (some ⟨w.heap.size, 0, none⟩)) w' ∧ RangeIs enc w' w.heap.size b f (fun a => f a ≠ none) cnt ∧ Upd Nowhere w w' ∧ w'.heap.size = w.heap.size + 1 := by
  have hlt := h.lt
  obtain ⟨es, ck, h1, h2, h3, h4⟩ := h
  refine ⟨_, es.size, run_range_map w t kt et b es ck ht h1, ⟨es, ck, ck, #[], ck, ((MapKept.heap_alloc w _).2 b hlt).trans h1, h2, h3, h4, (MapKept.heap_alloc w _).1, h2.1, Nat.le_refl _, Nat.le_refl _, ?_, ?_, ?_⟩, (Upd.refl _ w).alloc _, by simp⟩
  · simp [leftOf]
  · intro x hx a ha
    simp only [Array.contains_empty, iff_true]
    rw [(h4 a x.val).2 ⟨x, hx, ha, rfl⟩]
    simp
  · intro a ha
    cases hf : f a with
    | none => exact absurd hf ha
    | some v =>
      obtain ⟨x, hx, hk, _⟩ := (h4 a v).1 hf
      exact ⟨x, hx, hk⟩
/-- The step. -/
theorem RangeIs.next (h : RangeIs enc w r b f left cnt) (K : KeyEnc d enc) (ty : TypeId) :
    (cnt = 0 ∧ (∀ a, ¬ left a) ∧ (Instr.next (.pointer (some ⟨r, 0, none⟩)) false ty).run P w = .ok (.tuple #[.bool false]) w) ∨
    ∃ a v w' cnt', f a = some v ∧ left a ∧ (Instr.next (.pointer (some ⟨r, 0, none⟩)) false ty).run P w = .ok (.tuple #[.bool true, enc a, v]) w' ∧ RangeIs enc w' r b f (fun x => left x ∧ x ≠ a) cnt' ∧ cnt' < cnt ∧ Upd (fun k => k = r) w w' ∧ w'.heap.size = w.heap.size ∧
      (Instr.entry (.pointer (some ⟨r, 0, none⟩))).run P w' = .ok (.tuple #[enc a, v]) w' := by
  have hne := h.ne
  obtain ⟨es, ck, since, seen, c0, hb, hst, h3, h4, hr, hold, hsc, hsk, hcnt, hl1, hl2⟩ := h
  rcases run_next_at (P := P) w ty r b since c0 seen es ck hr hb hold hsc with ⟨h0, hrun⟩ | ⟨e, he, w1, hal, hrun⟩
  · refine .inl ⟨by omega, fun a ha => ?_, hrun⟩
    obtain ⟨x, hx, hk⟩ := hl2 a ha
    have := (hl1 x hx a hk).1 ha
    rw [all_seen es seen h0 x hx] at this
    cases this
  · obtain ⟨hem, hes⟩ := mem_left he
    obtain ⟨a, ha⟩ := h3 e hem
    have hr1 : w1.heap[r]? = some (.mapIter (some b) since seen c0) := by rcases hal with rfl | rfl <;> exact hr
    have hb1 : w1.heap[b]? = some (.map es ck) := by rcases hal with rfl | rfl <;> exact hb
    have hset := heap_set (o' := .mapIter (some b) since (seen.push e.born) ck) hr1
    have hb' : (setBlock w1 r (.mapIter (some b) since (seen.push e.born) ck)).heap[b]? = some (.map es ck) := (hset.2 b (fun e1 => hne e1.symm)).trans hb1
    refine .inr ⟨a, e.val, _, _, (h4 a _).2 ⟨e, hem, ha, rfl⟩, (hl1 e hem a ha).2 hes, by rw [← ha]; exact hrun,
      ⟨es, ck, since, seen.push e.born, ck, hb', hst, h3, h4, hset.1, hold, hsk, hsk, rfl, fun x hx c hc => ?_, fun c hc => hl2 c hc.1⟩, by rw [← hcnt]; exact left_shrinks es seen e he, ?_, ?_, by
        rw [← ha]; exact run_entry_at _ r b since seen es ck e hset.1 hb' hem hst.2.1⟩
    · rw [contains_push]
      constructor
      · rintro ⟨hl, hca⟩
        have h5 := (hl1 x hx c hc).1 hl
        have h6 : (x.born == e.born) = false := by
          cases hxe : (x.born == e.born) with
          | false => rfl
          | true =>
            have : x = e := born_inj hst.2.1 hx hem (by simpa using hxe)
            subst this
            exact absurd (K.inj (hc.symm.trans ha)) hca
        rw [h5, h6]; rfl
      · intro h5
        simp only [Bool.or_eq_false_iff] at h5
        refine ⟨(hl1 x hx c hc).2 h5.1, ?_⟩
        rintro rfl
        have hkk : x.key = e.key := hc.trans ha.symm
        obtain ⟨i, hi⟩ := List.mem_iff_getElem?.1 hx
        obtain ⟨j, hj⟩ := List.mem_iff_getElem?.1 hem
        have hij := nodup_key hst.2.2 hi hj hkk
        subst hij
        rw [hi] at hj
        cases hj
        simp at h5
    · rcases hal with rfl | rfl <;> exact ⟨rfl, rfl, rfl, by simp [setBlock], fun i _ hi => hset.2 i hi⟩
    · rcases hal with rfl | rfl <;> simp [setBlock]
end

/-! ### at the operations of a walk -/
section
variable {P : Program} {ops : Array Oper} {rest : List Oper} {o : Oper} {a : Act} {Q : Exit → Act → World → Prop} {w : World}
theorem wpList_range_run (hg : o.guard = none) (m : Operand) (t : TypeId) (ho : o.op = Op.range t m) {mv v : Value} {w' : World} (hm : a.eval m = mv) (hrun : (Instr.range t mv).run P w = .ok v w') (h : wpList P ops Q rest (a.put o.dst v) w') : wpList P ops Q (o :: rest) a w := by
  refine wpList_plain hg fun K hK => ?_
  unfold Oper.wp
  simp only [execOp, ho, hm, Sem.run_bind, hrun, Result.andThen, Sem.run_pure]
  exact hK _ _ h
theorem wpList_next_run (hg : o.guard = none) (it : Operand) (ho : o.op = Op.next it false) {iv v : Value} {w' : World} (hm : a.eval it = iv) (hrun : (Instr.next iv false o.type).run P w = .ok v w') (h : wpList P ops Q rest (a.put o.dst v) w') : wpList P ops Q (o :: rest) a w := by
  refine wpList_plain hg fun K hK => ?_
  unfold Oper.wp
  simp only [execOp, ho, hm, Sem.run_bind, hrun, Result.andThen, Sem.run_pure]
  exact hK _ _ h
theorem wpList_next_is {α : Type} {d : TypeDesc} {enc : α → Value} (K : KeyEnc d enc) (hg : o.guard = none) (it : Operand) (ho : o.op = Op.next it false) {r b cnt : Nat} {f : α → Option Value} {left : α → Prop} (hit : a.eval it = .pointer (some ⟨r, 0, none⟩)) (h : RangeIs enc w r b f left cnt)
    (hDone : cnt = 0 → (∀ x, ¬ left x) → wpList P ops Q rest (a.put o.dst (.tuple #[.bool false])) w)
    (hMore : ∀ (x : α) (v : Value) (w' : World) (cnt' : Nat), f x = some v → left x → RangeIs enc w' r b f (fun y => left y ∧ y ≠ x) cnt' → cnt' < cnt → Upd (fun k => k = r) w w' → w'.heap.size = w.heap.size → (Instr.entry (.pointer (some ⟨r, 0, none⟩))).run P w' = .ok (.tuple #[enc x, v]) w' →
      wpList P ops Q rest (a.put o.dst (.tuple #[.bool true, enc x, v])) w') : wpList P ops Q (o :: rest) a w := by
  rcases h.next (P := P) K o.type with ⟨h0, hno, hrun⟩ | ⟨x, v, w1, cnt1, hfa, hla, hrun, hR1, hlt, hu1, hsz1, hen⟩
  · exact wpList_next_run hg it ho hit hrun (hDone h0 hno)
  · exact wpList_next_run hg it ho hit hrun (hMore x v w1 cnt1 hfa hla hR1 hlt hu1 hsz1 hen)
end
end Go.Proofs.Ytddknmgajacofaa
