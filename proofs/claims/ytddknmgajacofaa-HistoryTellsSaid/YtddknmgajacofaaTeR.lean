/-
  Maps whose keys are pairs of numbers: the store; a range over whatever map.
-/
import Derived.Test.YtddknmgajacofaaTeE
import Derived.Test.YtddknmgajacofaaMapR
namespace Go.Proofs.Ytddknmgajacofaa
open Go Go.RowKit Go.MapKept
open Go.ChangeMaps (setBlock)

abbrev encP (p : Int × Int) : Value := .agg #[.int .i64 p.1, .int .i64 p.2]
theorem encP_inj {p q : Int × Int} (h : encP p = encP q) : p = q := by
  obtain ⟨a, b⟩ := p
  obtain ⟨c, d⟩ := q
  simp only [encP, Value.agg.injEq, Array.mk.injEq, List.cons.injEq, Value.int.injEq, true_and, and_true] at h
  exact Prod.ext h.1 h.2
theorem run_checkP (e : Bool) (p : Int × Int) (w : World) : (Instr.checkKey e 10000 44 (encP p)).run Try.prog w = .ok () w := by
  have u3 := Try.underlying3
  have a3 := Try.isAgg3
  have z3 := Try.sizeOf3
  rw [show (10000 : Nat) = 9998 + 1 + 1 from rfl, Instr.checkKey]
  simp only [Sem.run_bind, run_underlying Try.underlying44, Result.andThen_ok]
  simp only [Std.Legacy.Range.forIn_eq_forIn_range', Std.Legacy.Range.size, Nat.sub_zero, Nat.add_sub_cancel, Nat.div_one, List.range'_succ, List.range'_zero, List.forIn_cons, List.forIn_nil]
  unfold Instr.checkKey
  go_simp
theorem run_askP (p : Int × Int) (w : World) : ∀ (L : List MapEntry) (i : Nat), (∀ e ∈ L, ∃ c, e.key = encP c) →
    ((Instr.findAsking 44 (encP p) L i).run Try.prog w = .ok none w ∧ ∀ x ∈ L, x.key ≠ encP p) ∨ ∃ j e, (Instr.findAsking 44 (encP p) L i).run Try.prog w = .ok (some (i + j, e.val)) w ∧ L[j]? = some e ∧ e.key = encP p
  | [], i, _ => .inl ⟨by simp [Instr.findAsking], by simp⟩
  | e :: L, i, h => by
    obtain ⟨c, hc⟩ := h e (List.mem_cons_self ..)
    have heq : (Op.equal 44 (encP p) e.key).run Try.prog w = .ok (decide (p.1 = c.1 ∧ p.2 = c.2)) w := by
      rw [hc]
      exact run_equal_pair p.1 p.2 c.1 c.2 w
    by_cases hpc : p.1 = c.1 ∧ p.2 = c.2
    · rw [decide_eq_true hpc] at heq
      refine .inr ⟨0, e, ?_, rfl, by rw [hc, Prod.ext hpc.1 hpc.2]⟩
      simp [Instr.findAsking, heq, Result.andThen]
    · rw [decide_eq_false hpc] at heq
      have hne : e.key ≠ encP p := fun he => by
        have := encP_inj (hc.symm.trans he)
        subst this
        exact hpc ⟨rfl, rfl⟩
      rcases run_askP p w L (i + 1) (fun x hx => h x (List.mem_cons_of_mem _ hx)) with ⟨h1, h2⟩ | ⟨j, e', h1, h2, h3⟩
      · refine .inl ⟨by simp [Instr.findAsking, heq, Result.andThen, h1], fun x hx => ?_⟩
        rcases List.mem_cons.1 hx with rfl | hx
        · exact hne
        · exact h2 x hx
      · refine .inr ⟨j + 1, e', ?_, by simpa using h2, h3⟩
        simp only [Instr.findAsking, Sem.run_bind, heq, Result.andThen_ok, Bool.false_eq_true, if_false]
        rw [h1, show i + 1 + j = i + (j + 1) by omega]
theorem findNow_none (p : Int × Int) (L : List MapEntry) (x : TypeDesc) (hx : ∃ n e, x = .array n e) : L = [] ∨ Instr.findNow x (encP p) L 0 = none := by
  obtain ⟨n, e, rfl⟩ := hx
  cases L with
  | nil => exact .inl rfl
  | cons a L => exact .inr (by simp [Instr.findNow, Instr.sameNow])
theorem run_findP (p : Int × Int) (w : World) (L : List MapEntry) (h : ∀ e ∈ L, ∃ c, e.key = encP c) :
    ((Instr.findKey 44 (encP p) L).run Try.prog w = .ok none w ∧ ∀ x ∈ L, x.key ≠ encP p) ∨ ∃ j e, (Instr.findKey 44 (encP p) L).run Try.prog w = .ok (some (j, e.val)) w ∧ L[j]? = some e ∧ e.key = encP p := by
  rcases findNow_none p L (.array 2 3) ⟨_, _, rfl⟩ with rfl | hno
  · exact .inl ⟨by simp [Instr.findKey, run_underlying Try.underlying44, Result.andThen, Instr.findNow], by simp⟩
  · rcases run_askP p w L 0 h with ⟨h1, h2⟩ | ⟨j, e, h1, h2, h3⟩
    · exact .inl ⟨by simp only [Instr.findKey, Sem.run_bind, run_underlying Try.underlying44, Result.andThen_ok, hno]; exact h1, h2⟩
    · refine .inr ⟨j, e, ?_, h2, h3⟩
      rw [Nat.zero_add] at h1
      simp only [Instr.findKey, Sem.run_bind, run_underlying Try.underlying44, Result.andThen_ok, hno]
      exact h1
theorem run_stayP (p : Int × Int) (w : World) : (Instr.keyThatStays (encP p) (encP p)).run Try.prog w = .ok (encP p) w := by
  simp [Instr.keyThatStays, Instr.sameBits, encP]
/-- m[p] = v. -/
theorem MapIs.storeP {w : World} {b : Nat} {f : Int × Int → Option Value} (h : MapIs encP w b f) {t et : TypeId} (ht : Try.prog.underlying t = some (.map 44 et)) (p : Int × Int) (v : Value) :
    ∃ w', (Instr.mapUpdate t (.map (some b)) (encP p) v).run Try.prog w = .ok () w' ∧ MapIs encP w' b (putF f p (some v)) ∧ w.grownBy w' (some b) ∧ w'.heap.size = w.heap.size := by
  obtain ⟨es, ck, h1, h2, h3, h4⟩ := h
  rcases run_findP p w es.toList h3 with ⟨e2, e3⟩ | ⟨j, e, e2, e3, e4⟩
  · refine ⟨setBlock w b (.map (es.push { key := encP p, val := v, born := ck }) (ck + 1)), ?_, ⟨_, _, setBlock_at (lt_of_heap h1) _, stamped_push h2 e3, ?_, ?_⟩, setBlock_grown _ _ _, by simp [setBlock]⟩
    · simp only [Instr.mapUpdate, Sem.run_bind, run_underlying ht, MapKept.run_getObj_map h1, run_checkP, e2, MapKept.run_setObj_map _ h1, Result.andThen_ok, setBlock]
    · intro x hx
      simp only [Array.toList_push, List.mem_append, List.mem_singleton] at hx
      rcases hx with hx | rfl
      · exact h3 x hx
      · exact ⟨p, rfl⟩
    · intro c u
      unfold putF
      by_cases hc : c = p
      · subst hc
        rw [if_pos rfl]
        constructor
        · intro hh
          cases hh
          exact ⟨{ key := encP c, val := v, born := ck }, by simp, rfl, rfl⟩
        · rintro ⟨x, hx, hx1, hx2⟩
          simp only [Array.toList_push, List.mem_append, List.mem_singleton] at hx
          rcases hx with hx | rfl
          · exact absurd hx1 (e3 x hx)
          · rw [← hx2]
      · rw [if_neg hc, h4]
        constructor
        · rintro ⟨x, hx, hx1, hx2⟩
          exact ⟨x, by simp only [Array.toList_push, List.mem_append]; exact .inl hx, hx1, hx2⟩
        · rintro ⟨x, hx, hx1, hx2⟩
          simp only [Array.toList_push, List.mem_append, List.mem_singleton] at hx
          rcases hx with hx | rfl
          · exact ⟨x, hx, hx1, hx2⟩
          · exact absurd (encP_inj hx1.symm) hc
  · have hj : es[j]? = some e := by rw [← Array.getElem?_toList]; exact e3
    refine ⟨setBlock w b (.map (es.modify j fun x => { x with key := encP p, val := v }) ck), ?_, ⟨_, _, setBlock_at (lt_of_heap h1) _, stamped_modify h2 j _ (fun _ _ => rfl) (fun x _ hx => ?_), ?_, ?_⟩, setBlock_grown _ _ _, by simp [setBlock]⟩
    · simp only [Instr.mapUpdate, Sem.run_bind, run_underlying ht, MapKept.run_getObj_map h1, run_checkP, e2, hj, Option.map_some, Option.getD_some, e4, run_stayP, MapKept.run_setObj_map _ h1, Result.andThen_ok, setBlock]
    · rw [hj] at hx; cases hx; exact e4.symm
    · intro x hx
      rcases (mem_modify e3 x).1 hx with rfl | ⟨i, _, hi⟩
      · exact ⟨p, rfl⟩
      · exact h3 x (List.mem_of_getElem? hi)
    · intro c u
      unfold putF
      by_cases hc : c = p
      · subst hc
        rw [if_pos rfl]
        constructor
        · intro hh
          cases hh
          exact ⟨_, (mem_modify e3 _).2 (.inl rfl), rfl, rfl⟩
        · rintro ⟨x, hx, hx1, hx2⟩
          rcases (mem_modify e3 x).1 hx with rfl | ⟨i, hij, hi⟩
          · rw [← hx2]
          · exact absurd (nodup_key h2.2.2 hi e3 (hx1.trans e4.symm)) hij
      · rw [if_neg hc, h4]
        constructor
        · rintro ⟨x, hx, hx1, hx2⟩
          obtain ⟨i, hi⟩ := List.mem_iff_getElem?.1 hx
          refine ⟨x, (mem_modify e3 x).2 (.inr ⟨i, ?_, hi⟩), hx1, hx2⟩
          rintro rfl
          rw [e3] at hi; cases hi
          exact hc (encP_inj (hx1.symm.trans e4))
        · rintro ⟨x, hx, hx1, hx2⟩
          rcases (mem_modify e3 x).1 hx with rfl | ⟨i, hij, hi⟩
          · exact absurd (encP_inj hx1.symm) hc
          · exact ⟨x, List.mem_of_getElem? hi, hx1, hx2⟩
end Go.Proofs.Ytddknmgajacofaa
