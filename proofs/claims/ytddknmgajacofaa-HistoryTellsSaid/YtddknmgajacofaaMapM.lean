/-
  A map in memory, told by a function from keys to values: look-up, store, delete, length; the operations for a walk, inside a fence and outside.
-/
import Derived.Test.YtddknmgajacofaaLib
import Derived.MapKept
import Derived.Maps.Own
import Derived.Maps.OwnIn
import Derived.Maps.RangeRun
namespace Go.Proofs.Ytddknmgajacofaa
open Go Go.RowKit Go.MapKept
open Go.ChangeMaps (setBlock)

theorem setBlock_grown (w : World) (b : Nat) (o : Obj) : w.grownBy (setBlock w b o) (some b) :=
  ⟨rfl, rfl, rfl, by simp [setBlock], fun k hk he => by
    simp only [setBlock]
    rw [Array.getElem?_setIfInBounds_ne (by intro e; subst e; exact he rfl)]⟩
theorem setBlock_at {w : World} {b : Nat} (h : b < w.heap.size) (o : Obj) : (setBlock w b o).heap[b]? = some o := by
  simp [setBlock, h]

/-- A change of a function at one place. -/
def putF {α β : Type} [DecidableEq α] (f : α → Option β) (a : α) (v : Option β) : α → Option β := fun x => if x = a then v else f x
theorem putF_same {α β : Type} [DecidableEq α] (f : α → Option β) (a : α) (v : Option β) : putF f a v a = v := by simp [putF]
theorem putF_other {α β : Type} [DecidableEq α] (f : α → Option β) {a x : α} (h : x ≠ a) (v : Option β) : putF f a v x = f x := by simp [putF, h]

structure KeyEnc {α : Type} (d : TypeDesc) (enc : α → Value) : Prop where
  key : ∀ a, IsKey d (enc a)
  inj : ∀ {a b}, enc a = enc b → a = b
theorem keyInt (k : IntKind) : KeyEnc (.int k) (fun n : Int => .int k n) := ⟨fun _ => rfl, fun h => by injection h⟩
theorem keyStr : KeyEnc .string (fun s : List UInt8 => .string ⟨s.toArray⟩) := ⟨fun _ => trivial, fun h => by simpa using h⟩

/-- The map in block b holds just f. -/
def MapIs {α : Type} (enc : α → Value) (w : World) (b : Nat) (f : α → Option Value) : Prop :=
  ∃ es ck, w.heap[b]? = some (.map es ck) ∧ Stamped es ck ∧ (∀ e ∈ es.toList, ∃ a, e.key = enc a) ∧ ∀ a v, f a = some v ↔ ∃ e ∈ es.toList, e.key = enc a ∧ e.val = v

section
variable {α : Type} {d : TypeDesc} {enc : α → Value} {w w' : World} {b : Nat} {f : α → Option Value} {P : Program}
theorem MapIs.lt (h : MapIs enc w b f) : b < w.heap.size := by obtain ⟨_, _, h, _⟩ := h; exact lt_of_heap h
theorem MapIs.new (w : World) (enc : α → Value) : MapIs enc (w.alloc (.map #[] 0)) w.heap.size (fun _ => none) :=
  ⟨#[], 0, heap_alloc_new w _, stamped_empty _, by simp, by simp⟩
theorem MapIs.of_block (h : MapIs enc w b f) (hb : w'.heap[b]? = w.heap[b]?) : MapIs enc w' b f := by
  obtain ⟨es, ck, h1, h2⟩ := h
  exact ⟨es, ck, hb.trans h1, h2⟩
theorem MapIs.upd {F : Nat → Prop} (h : MapIs enc w b f) (hu : Upd F w w') (hn : ¬ F b) : MapIs enc w' b f := h.of_block (hu.block _ h.lt hn)
theorem MapIs.grown {row : Option Nat} (h : MapIs enc w b f) (hg : w.grownBy w' row) (hn : row ≠ some b) : MapIs enc w' b f := h.of_block (hg.block _ h.lt fun e => hn e.symm)
theorem MapIs.alloc (h : MapIs enc w b f) (o : Obj) : MapIs enc (w.alloc o) b f := h.upd ((Upd.refl Nowhere w).alloc o) id
theorem MapIs.setCell (h : MapIs enc w b f) (p : Addr) (u : Value) : MapIs enc (w.setCell p u) b f := by
  obtain ⟨es, ck, h1, h2⟩ := h
  refine ⟨es, ck, ?_, h2⟩
  simp only [World.setCell, Array.getElem?_modify, h1]
  split <;> rfl
theorem MapIs.congr {g : α → Option Value} (h : MapIs enc w b f) (e : ∀ a, f a = g a) : MapIs enc w b g := by
  rw [show g = f from funext fun a => (e a).symm]; exact h
theorem MapIs.unique {g : α → Option Value} (h : MapIs enc w b f) (h' : MapIs enc w b g) : f = g := by
  obtain ⟨es, ck, h1, _, _, h2⟩ := h
  obtain ⟨es', ck', h1', _, _, h2'⟩ := h'
  rw [h1] at h1'
  cases h1'
  funext a
  cases hf : f a with
  | none =>
    cases hg : g a with
    | none => rfl
    | some v => rw [(h2 a v).2 ((h2' a v).1 hg)] at hf; cases hf
  | some v => exact ((h2' a v).2 ((h2 a v).1 hf)).symm
theorem MapIs.ne_blk {g : Nat} {t : TypeId} {cs : Array Value} (h : MapIs enc w b f) (hg : Blk w g t cs) : b ≠ g := by
  rintro rfl
  obtain ⟨_, _, h1, _⟩ := h
  unfold Blk at hg
  rw [hg] at h1
  cases h1

theorem MapIs.find (K : KeyEnc d enc) {es : Array MapEntry} (hf : ∀ a v, f a = some v ↔ ∃ e ∈ es.toList, e.key = enc a ∧ e.val = v) (hk : ∀ e ∈ es.toList, ∃ a, e.key = enc a) (a : α) :
    (f a = none ∧ Instr.findNow d (enc a) es.toList 0 = some none ∧ ∀ x ∈ es.toList, x.key ≠ enc a) ∨
    ∃ j e, f a = some e.val ∧ Instr.findNow d (enc a) es.toList 0 = some (some (j, e.val)) ∧ es.toList[j]? = some e ∧ e.key = enc a := by
  rcases findNow_spec (K.key a) es.toList 0 (fun x hx => by obtain ⟨c, hc⟩ := hk x hx; rw [hc]; exact K.key c) with ⟨h1, h2⟩ | ⟨j, e, h1, h2, h3⟩
  · refine .inl ⟨?_, h1, h2⟩
    cases h : f a with
    | none => rfl
    | some v =>
      obtain ⟨e, he, hk', _⟩ := (hf a v).1 h
      exact absurd hk' (h2 e he)
  · rw [Nat.zero_add] at h1
    exact .inr ⟨j, e, (hf a _).2 ⟨e, List.mem_of_getElem? h2, h3, rfl⟩, h1, h2, h3⟩

theorem run_checkKey' {kt : TypeId} (hk : P.underlying kt = some d) (K : KeyEnc d enc) (a : α) (e : Bool) (w : World) : (Instr.checkKey e 10000 kt (enc a)).run P w = .ok () w := MapKept.run_checkKey hk (K.key a) e 9999

/-- m[k], v, ok := m[k]. -/
theorem MapIs.look (h : MapIs enc w b f) (K : KeyEnc d enc) {t kt et : TypeId} (ht : P.underlying t = some (.map kt et)) (hk : P.underlying kt = some d) {z : Value} (hz : (zeroValue et).run P w = .ok z w) (a : α) (c : Bool) :
    (Instr.lookup t (.map (some b)) (enc a) c).run P w = .ok (if c then .tuple #[(f a).getD z, .bool (f a).isSome] else (f a).getD z) w := by
  obtain ⟨es, ck, h1, h2, h3, h4⟩ := h
  rcases MapIs.find K h4 h3 a with ⟨e1, e2, _⟩ | ⟨j, e, e1, e2, _⟩
  · rw [e1]
    cases c <;> simp [Instr.lookup, run_underlying ht, MapKept.run_getObj_map h1, run_checkKey' hk K, MapKept.run_findKey hk e2, Result.andThen, hz]
  · rw [e1]
    cases c <;> simp [Instr.lookup, run_underlying ht, MapKept.run_getObj_map h1, run_checkKey' hk K, MapKept.run_findKey hk e2, Result.andThen]
/-- m[k] of a nil map. -/
theorem look_nilmap (K : KeyEnc d enc) {t kt et : TypeId} (ht : P.underlying t = some (.map kt et)) (hk : P.underlying kt = some d) {z : Value} (hz : (zeroValue et).run P w = .ok z w) (a : α) (c : Bool) :
    (Instr.lookup t (.map none) (enc a) c).run P w = .ok (if c then .tuple #[z, .bool false] else z) w := by
  have e2 : Instr.findNow d (enc a) [] 0 = some none := rfl
  cases c <;> simp [Instr.lookup, run_underlying ht, run_checkKey' hk K, MapKept.run_findKey hk e2, Result.andThen, hz]

theorem nodup_key {es : List MapEntry} (h : (es.map (·.key)).Nodup) {i j : Nat} {e e' : MapEntry} (hi : es[i]? = some e) (hj : es[j]? = some e') (he : e.key = e'.key) : i = j := by
  obtain ⟨hi1, hi2⟩ := List.getElem?_eq_some_iff.1 hi
  obtain ⟨hj1, hj2⟩ := List.getElem?_eq_some_iff.1 hj
  exact (List.getElem_inj (h₀ := by simpa using hi1) (h₁ := by simpa using hj1) h).1 (by simp [hi2, hj2, he])
theorem mem_modify {es : Array MapEntry} {j : Nat} {e0 : MapEntry} {g : MapEntry → MapEntry} (h0 : es.toList[j]? = some e0) (x : MapEntry) :
    x ∈ (es.modify j g).toList ↔ x = g e0 ∨ ∃ i, i ≠ j ∧ es.toList[i]? = some x := by
  constructor
  · intro hx
    obtain ⟨i, hi⟩ := List.mem_iff_getElem?.1 hx
    rw [Array.getElem?_toList, Array.getElem?_modify] at hi
    by_cases hij : j = i
    · subst hij
      rw [Array.getElem?_toList] at h0
      simp [h0] at hi
      exact .inl hi.symm
    · rw [if_neg hij] at hi
      exact .inr ⟨i, fun e => hij e.symm, by rw [Array.getElem?_toList]; exact hi⟩
  · rintro (rfl | ⟨i, hij, hi⟩)
    · refine List.mem_iff_getElem?.2 ⟨j, ?_⟩
      rw [Array.getElem?_toList] at h0 ⊢
      rw [Array.getElem?_modify, if_pos rfl, h0]; rfl
    · refine List.mem_iff_getElem?.2 ⟨i, ?_⟩
      rw [Array.getElem?_toList] at hi ⊢
      rw [Array.getElem?_modify, if_neg (fun e => hij e.symm), hi]

variable [DecidableEq α]
/-- m[k] = v. -/
theorem MapIs.store (h : MapIs enc w b f) (K : KeyEnc d enc) {t kt et : TypeId} (ht : P.underlying t = some (.map kt et)) (hk : P.underlying kt = some d) (a : α) (v : Value) :
    ∃ w', (Instr.mapUpdate t (.map (some b)) (enc a) v).run P w = .ok () w' ∧ MapIs enc w' b (putF f a (some v)) ∧ w.grownBy w' (some b) ∧ w'.heap.size = w.heap.size := by
  obtain ⟨es, ck, h1, h2, h3, h4⟩ := h
  rcases MapIs.find K h4 h3 a with ⟨e1, e2, e3⟩ | ⟨j, e, e1, e2, e3, e4⟩
  · refine ⟨setBlock w b (.map (es.push { key := enc a, val := v, born := ck }) (ck + 1)), ?_, ⟨_, _, setBlock_at (lt_of_heap h1) _, stamped_push h2 e3, ?_, ?_⟩, setBlock_grown _ _ _, by simp [setBlock]⟩
    · simp [Instr.mapUpdate, run_underlying ht, MapKept.run_getObj_map h1, run_checkKey' hk K, MapKept.run_findKey hk e2, MapKept.run_setObj_map _ h1, Result.andThen, setBlock]
    · intro x hx
      simp only [Array.toList_push, List.mem_append, List.mem_singleton] at hx
      rcases hx with hx | rfl
      · exact h3 x hx
      · exact ⟨a, rfl⟩
    · intro c u
      unfold putF
      by_cases hc : c = a
      · subst hc
        rw [if_pos rfl]
        constructor
        · intro hh
          cases hh
          exact ⟨{ key := enc c, val := v, born := ck }, by simp, rfl, rfl⟩
        · rintro ⟨x, hx, hx1, hx2⟩
          simp only [Array.toList_push, List.mem_append, List.mem_singleton] at hx
          rcases hx with hx | rfl
          · exact absurd hx1 (e3 x hx)
          · rw [← hx2]
      · rw [if_neg hc, h4]
        constructor
        · rintro ⟨x, hx, hx1, hx2⟩
          exact ⟨x, by simp only [Array.toList_push, List.mem_append]; exact .inl hx, hx1, hx2⟩
        · rintro ⟨x, hx, hx1, hx2⟩
          simp only [Array.toList_push, List.mem_append, List.mem_singleton] at hx
          rcases hx with hx | rfl
          · exact ⟨x, hx, hx1, hx2⟩
          · exact absurd (K.inj hx1.symm) hc
  · have hj : es[j]? = some e := by rw [← Array.getElem?_toList]; exact e3
    have hst : (Instr.keyThatStays (enc a) (enc a)).run P w = .ok (enc a) w := MapKept.run_keyThatStays (K.key a)
    refine ⟨setBlock w b (.map (es.modify j fun x => { x with key := enc a, val := v }) ck), ?_, ⟨_, _, setBlock_at (lt_of_heap h1) _, stamped_modify h2 j _ (fun _ _ => rfl) (fun x _ hx => ?_), ?_, ?_⟩, setBlock_grown _ _ _, by simp [setBlock]⟩
    · simp [Instr.mapUpdate, run_underlying ht, MapKept.run_getObj_map h1, run_checkKey' hk K, MapKept.run_findKey hk e2, hj, e4, hst, MapKept.run_setObj_map _ h1, Result.andThen, setBlock]
    · rw [hj] at hx; cases hx; exact e4.symm
    · intro x hx
      rcases (mem_modify e3 x).1 hx with rfl | ⟨i, _, hi⟩
      · exact ⟨a, rfl⟩
      · exact h3 x (List.mem_of_getElem? hi)
    · intro c u
      unfold putF
      by_cases hc : c = a
      · subst hc
        rw [if_pos rfl]
        constructor
        · intro hh
          cases hh
          exact ⟨_, (mem_modify e3 _).2 (.inl rfl), rfl, rfl⟩
        · rintro ⟨x, hx, hx1, hx2⟩
          rcases (mem_modify e3 x).1 hx with rfl | ⟨i, hij, hi⟩
          · rw [← hx2]
          · exact absurd (nodup_key h2.2.2 hi e3 (hx1.trans e4.symm)) hij
      · rw [if_neg hc, h4]
        constructor
        · rintro ⟨x, hx, hx1, hx2⟩
          obtain ⟨i, hi⟩ := List.mem_iff_getElem?.1 hx
          refine ⟨x, (mem_modify e3 x).2 (.inr ⟨i, ?_, hi⟩), hx1, hx2⟩
          rintro rfl
          rw [e3] at hi; cases hi
          exact hc (K.inj (hx1.symm.trans e4))
        · rintro ⟨x, hx, hx1, hx2⟩
          rcases (mem_modify e3 x).1 hx with rfl | ⟨i, hij, hi⟩
          · exact absurd (K.inj hx1.symm) hc
          · exact ⟨x, List.mem_of_getElem? hi, hx1, hx2⟩

theorem mem_erase {es : Array MapEntry} {j : Nat} {e0 : MapEntry} (h0 : es.toList[j]? = some e0) (x : MapEntry) :
    x ∈ (es.eraseIdxIfInBounds j).toList ↔ ∃ i, i ≠ j ∧ es.toList[i]? = some x := by
  have hj : j < es.size := by simpa using (List.getElem?_eq_some_iff.1 h0).1
  have e : (es.eraseIdxIfInBounds j).toList = es.toList.eraseIdx j := by simp [Array.eraseIdxIfInBounds, hj]
  rw [e, List.mem_eraseIdx_iff_getElem?]
/-- delete(m, k). -/
theorem MapIs.del (h : MapIs enc w b f) (K : KeyEnc d enc) {t kt et ty : TypeId} {ts : Array TypeId} (hts : ts[0]? = some t) (ht : P.underlying t = some (.map kt et)) (hk : P.underlying kt = some d) (a : α) :
    ∃ w', (Builtin.delete_ ts ty #[.map (some b), enc a]).run P w = .ok (.tuple #[]) w' ∧ MapIs enc w' b (putF f a none) ∧ w.grownBy w' (some b) ∧ w'.heap.size = w.heap.size := by
  obtain ⟨es, ck, h1, h2, h3, h4⟩ := h
  rcases MapIs.find K h4 h3 a with ⟨e1, e2, e3⟩ | ⟨j, e, e1, e2, e3, e4⟩
  · refine ⟨setBlock w b (.map es ck), ?_, ⟨_, _, setBlock_at (lt_of_heap h1) _, h2, h3, ?_⟩, setBlock_grown _ _ _, by simp [setBlock]⟩
    · simp [Builtin.delete_, hts, run_underlying ht, MapKept.run_getObj_map h1, run_checkKey' hk K, MapKept.run_findKey hk e2, MapKept.run_setObj_map _ h1, Result.andThen, setBlock]
    · intro c u
      unfold putF
      by_cases hc : c = a
      · subst hc; rw [if_pos rfl, ← h4, e1]
      · rw [if_neg hc, h4]
  · refine ⟨setBlock w b (.map (es.eraseIdxIfInBounds j) ck), ?_, ⟨_, _, setBlock_at (lt_of_heap h1) _, stamped_erase h2 j, ?_, ?_⟩, setBlock_grown _ _ _, by simp [setBlock]⟩
    · simp [Builtin.delete_, hts, run_underlying ht, MapKept.run_getObj_map h1, run_checkKey' hk K, MapKept.run_findKey hk e2, MapKept.run_setObj_map _ h1, Result.andThen, setBlock]
    · intro x hx
      obtain ⟨i, _, hi⟩ := (mem_erase e3 x).1 hx
      exact h3 x (List.mem_of_getElem? hi)
    · intro c u
      unfold putF
      by_cases hc : c = a
      · subst hc
        rw [if_pos rfl]
        constructor
        · intro hh; cases hh
        · rintro ⟨x, hx, hx1, hx2⟩
          obtain ⟨i, hij, hi⟩ := (mem_erase e3 x).1 hx
          exact absurd (nodup_key h2.2.2 hi e3 (hx1.trans e4.symm)) hij
      · rw [if_neg hc, h4]
        constructor
        · rintro ⟨x, hx, hx1, hx2⟩
          obtain ⟨i, hi⟩ := List.mem_iff_getElem?.1 hx
          refine ⟨x, (mem_erase e3 x).2 ⟨i, ?_, hi⟩, hx1, hx2⟩
          rintro rfl
          rw [e3] at hi; cases hi
          exact hc (K.inj (hx1.symm.trans e4))
        · rintro ⟨x, hx, hx1, hx2⟩
          obtain ⟨i, _, hi⟩ := (mem_erase e3 x).1 hx
          exact ⟨x, List.mem_of_getElem? hi, hx1, hx2⟩
end

/-! ### at the operations of a walk -/
section
variable {P : Program} {ops : Array Oper} {rest : List Oper} {o : Oper} {a : Act} {Q : Exit → Act → World → Prop} {w : World}
theorem wpList_lookup_run (hg : o.guard = none) (m x : Operand) (t : TypeId) (c : Bool) (ho : o.op = Op.lookup t m x c) {mv kv v : Value}
    (hm : a.eval m = mv) (hx : a.eval x = kv) (hrun : (Instr.lookup t mv kv c).run P w = .ok v w) (h : wpList P ops Q rest (a.put o.dst v) w) : wpList P ops Q (o :: rest) a w := by
  refine wpList_plain hg fun K hK => ?_
  unfold Oper.wp
  simp only [execOp, ho, hm, hx, Sem.run_bind, hrun, Result.andThen, Sem.run_pure]
  exact hK _ _ h
theorem wpList_update_run (hg : o.guard = none) (m x y : Operand) (t : TypeId) (ho : o.op = Op.mapUpdate t m x y) {mv kv v : Value} {w' : World}
    (hm : a.eval m = mv) (hx : a.eval x = kv) (hy : a.eval y = v) (hrun : (Instr.mapUpdate t mv kv v).run P w = .ok () w') (h : wpList P ops Q rest (a.put o.dst undef) w') : wpList P ops Q (o :: rest) a w := by
  refine wpList_plain hg fun K hK => ?_
  unfold Oper.wp
  simp only [execOp, ho, hm, hx, hy, Sem.run_bind, hrun, Result.andThen, Sem.run_pure]
  exact hK _ _ h
theorem wpList_delete_run (hg : o.guard = none) (m x : Operand) (t k : TypeId) (ho : o.op = Op.call { callee := Callee.builtin Builtin.delete, args := #[m, x], argTypes := #[t, k] }) {mv kv : Value} {w' : World}
    (hm : a.eval m = mv) (hx : a.eval x = kv) (hrun : (Builtin.delete_ #[t, k] o.type #[mv, kv]).run P w = .ok (.tuple #[]) w') (h : wpList P ops Q rest (a.put o.dst (.tuple #[])) w') : wpList P ops Q (o :: rest) a w := by
  refine wpList_plain hg fun K hK => ?_
  unfold Oper.wp execOp
  simp only [ho, resolve, invoke, builtin, Sem.run_bind, Sem.run_pure, Result.andThen_ok, List.map_toArray, List.map_cons, List.map_nil, hm, hx, hrun]
  exact hK _ _ h
end
end Go.Proofs.Ytddknmgajacofaa
