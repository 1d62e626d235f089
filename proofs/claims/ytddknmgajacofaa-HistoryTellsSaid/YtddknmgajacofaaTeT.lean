/-
  The keys of a map of pairs, collected.
-/
import Derived.Test.YtddknmgajacofaaTeR
import Derived.Test.YtddknmgajacofaaHistK
import Derived.Test.YtddknmgajacofaaRoundP
import Derived.Test.YtddknmgajacofaaTeS
namespace Go.Proofs.Ytddknmgajacofaa
open Go Go.RowKit Go.MapKept Go.Shelf
open Go.ChangeMaps (setBlock)
attribute [local go_sem] Oper.semAt_some

section
variable {α : Type} {enc : α → Value} {w w' : World} {r b cnt : Nat} {f : α → Option Value} {left : α → Prop} {P : Program}
/-- The step. -/
theorem RangeIs.nextI (h : RangeIs enc w r b f left cnt) (inj : ∀ {a c : α}, enc a = enc c → a = c) (ty : TypeId) :
    (cnt = 0 ∧ (∀ a, ¬ left a) ∧ (Instr.next (.pointer (some ⟨r, 0, none⟩)) false ty).run P w = .ok (.tuple #[.bool false]) w) ∨
    ∃ a v w' cnt', f a = some v ∧ left a ∧ (Instr.next (.pointer (some ⟨r, 0, none⟩)) false ty).run P w = .ok (.tuple #[.bool true, enc a, v]) w' ∧ RangeIs enc w' r b f (fun x => left x ∧ x ≠ a) cnt' ∧ cnt' < cnt ∧ Upd (fun k => k = r) w w' ∧ w'.heap.size = w.heap.size ∧
      (Instr.entry (.pointer (some ⟨r, 0, none⟩))).run P w' = .ok (.tuple #[enc a, v]) w' := by
  have hne := h.ne
  obtain ⟨es, ck, since, seen, c0, hb, hst, h3, h4, hr, hold, hsc, hsk, hcnt, hl1, hl2⟩ := h
  rcases run_next_at (P := P) w ty r b since c0 seen es ck hr hb hold hsc with ⟨h0, hrun⟩ | ⟨e, he, w1, hal, hrun⟩
  · refine .inl ⟨by omega, fun a ha => ?_, hrun⟩
    obtain ⟨x, hx, hk⟩ := hl2 a ha
    have := (hl1 x hx a hk).1 ha
    rw [all_seen es seen h0 x hx] at this
    cases this
  · obtain ⟨hem, hes⟩ := mem_left he
    obtain ⟨a, ha⟩ := h3 e hem
    have hr1 : w1.heap[r]? = some (.mapIter (some b) since seen c0) := by rcases hal with rfl | rfl <;> exact hr
    have hb1 : w1.heap[b]? = some (.map es ck) := by rcases hal with rfl | rfl <;> exact hb
    have hset := heap_set (o' := .mapIter (some b) since (seen.push e.born) ck) hr1
    have hb' : (setBlock w1 r (.mapIter (some b) since (seen.push e.born) ck)).heap[b]? = some (.map es ck) := (hset.2 b (fun e1 => hne e1.symm)).trans hb1
    refine .inr ⟨a, e.val, _, _, (h4 a _).2 ⟨e, hem, ha, rfl⟩, (hl1 e hem a ha).2 hes, by rw [← ha]; exact hrun,
      ⟨es, ck, since, seen.push e.born, ck, hb', hst, h3, h4, hset.1, hold, hsk, hsk, rfl, fun x hx c hc => ?_, fun c hc => hl2 c hc.1⟩, by rw [← hcnt]; exact left_shrinks es seen e he, ?_, ?_, by
        rw [← ha]; exact run_entry_at _ r b since seen es ck e hset.1 hb' hem hst.2.1⟩
    · rw [contains_push]
      constructor
      · rintro ⟨hl, hca⟩
        have h5 := (hl1 x hx c hc).1 hl
        have h6 : (x.born == e.born) = false := by
          cases hxe : (x.born == e.born) with
          | false => rfl
          | true =>
            have : x = e := born_inj hst.2.1 hx hem (by simpa using hxe)
            subst this
            exact absurd (inj (hc.symm.trans ha)) hca
        rw [h5, h6]; rfl
      · intro h5
        simp only [Bool.or_eq_false_iff] at h5
        refine ⟨(hl1 x hx c hc).2 h5.1, ?_⟩
        rintro rfl
        have hkk : x.key = e.key := hc.trans ha.symm
        obtain ⟨i, hi⟩ := List.mem_iff_getElem?.1 hx
        obtain ⟨j, hj⟩ := List.mem_iff_getElem?.1 hem
        have hij := nodup_key hst.2.2 hi hj hkk
        subst hij
        rw [hi] at hj
        cases hj
        simp at h5
    · rcases hal with rfl | rfl <;> exact ⟨rfl, rfl, rfl, by simp [setBlock], fun i _ hi => hset.2 i hi⟩
    · rcases hal with rfl | rfl <;> simp [setBlock]
end
theorem RangeIs.keptW {α : Type} {enc : α → Value} {w w' : World} {r b cnt : Nat} {f : α → Option Value} {left : α → Prop} (h : RangeIs enc w r b f left cnt) (hk : ∀ (k : Nat) (o : Obj), w.heap[k]? = some o → o.isWalk = true → w'.heap[k]? = some o) : RangeIs enc w' r b f left cnt := by
  obtain ⟨es, ck, since, seen, c0, h1, h2, h3, h4, h5, rest⟩ := h
  exact ⟨es, ck, since, seen, c0, hk _ _ h1 rfl, h2, h3, h4, hk _ _ h5 rfl, rest⟩
theorem RangeIs.isWalk {α : Type} {enc : α → Value} {w : World} {r b cnt : Nat} {f : α → Option Value} {left : α → Prop} (h : RangeIs enc w r b f left cnt) : ∃ o : Obj, w.heap[r]? = some o ∧ o.isWalk = true := by
  obtain ⟨es, ck, since, seen, c0, _, _, _, _, h5, _⟩ := h
  exact ⟨_, h5, rfl⟩
theorem pkeys_ok (w : World) (b : Nat) : Calls Try.prog 31 #[.map (some b)] w fun e w' => e = .returned (.func (.func 47) #[] #[.pointer (some ⟨w.heap.size, 0, none⟩)]) ∧ w' = w.alloc (.cells #[.map (some b)] 57) := by
  go_enter Try.func31, Try.ntmps31
  go_wp2_with fail
  go_ret
  exact ⟨rfl, rfl⟩
/-- What walks ranges of maps is kept, and what is not in F. -/
def KpW (F : Nat → Prop) (W W' : World) : Prop := (∀ (k : Nat) (o : Obj), W.heap[k]? = some o → o.isWalk = true → W'.heap[k]? = some o) ∧ Upd F W W'
abbrev pairArr (p : Int × Int) : Array Value := #[.agg #[.int .i64 p.1, .int .i64 p.2]]
set_option maxHeartbeats 4000000 in
set_option maxRecDepth 100000 in
theorem pkeys_stops {Fr : Nat → Prop} {w : World} {b b1 N : Nat} {F : Int × Int → Option Value} (h1 : Blk w b1 57 #[.map (some b)]) (hm : MapIs encP w b F) (_ : ¬ Fr b1) (hN : ∀ xs : List (Int × Int), xs.Nodup → (∀ p ∈ xs, F p ≠ none) → xs.length ≤ N) (n : Nat) (hn : 1 ≤ n) :
    SeqStopsK Fence.wide n Try.prog 47 #[.pointer (some ⟨b1, 0, none⟩)] pairArr (KpW Fr) (fun xs => xs.Nodup ∧ ∀ p, p ∈ xs ↔ F p ≠ none) (fun _ => True) N w := by
  intro ll J Jx W hW hJ hJx hY h0
  have H1 := Lib.hid (h1.below hW h1.lt)
  have hmW := hm.of_block (hW.block _ hm.lt)
  obtain ⟨w3, cnt0, hrun0, hR0, hU0, hsz0⟩ := hmW.range (P := Try.prog) (t := 57) Try.underlying57
  have HR0 := Lib.hid hR0
  have HJ0 := Lib.hid (hJ _ _ _ none h0 (⟨hU0.os, hU0.tape, hU0.output, hU0.size, fun k hk _ => hU0.block k hk id⟩ : W.grownBy w3 none) (fun _ h => by cases h))
  have c1 := H1.out.cell
  clear h1 hm hW hmW hR0 hU0 hsz0 h0
  refine callsIn_of_wp Try.func47 rfl trivial ?_ rfl
  simp only [Try.ntmps47, List.size_toArray, List.length_cons, List.length_nil, Nat.reduceAdd, Nat.reduceSub, Array.replicate_succ, Array.replicate_zero, List.push_toArray, List.append_toArray, List.nil_append, List.cons_append]
  gi_wp2
  clear hrun0 c1
  gi_loopw [3] (fun _ wr => ∃ (left : Int × Int → Prop) (cnt : Nat) (xs : List (Int × Int)), RangeIs encP wr W.heap.size b F left cnt ∧ J xs wr ∧ xs.Nodup ∧ (∀ p, p ∈ xs ↔ F p ≠ none ∧ ¬ left p) ∧ (∀ p, left p → F p ≠ none)) (fun _ wr => wr.rangeLeft b W.heap.size)
  case atStart => exact ⟨_, cnt0, [], HR0.out, HJ0.out, List.nodup_nil, fun p => by simp, fun _ h => h⟩
  case round =>
    obtain ⟨left, cnt, xs, hR, hj, hnd, hxs, hlf⟩ := hrel
    have HR := Lib.hid hR
    have HXS := Lib.hid hxs
    have HND := Lib.hid hnd
    have HLF := Lib.hid hlf
    rcases hR.nextI (P := Try.prog) (fun h => encP_inj h) 0 with ⟨h0, hno, hrun⟩ | ⟨x, vx, wn, cnt1, hfx, hlx, hrun, hR1, hlt1, hu1, hsz1, hen⟩
    · have HJ := Lib.hid hj
      have HS : Hid (∀ p, p ∈ xs ↔ F p ≠ none) := Lib.hid fun p => (hxs p).trans ⟨fun h => h.1, fun h => ⟨h, hno p⟩⟩
      clear hj hR hxs hnd hlf hno
      gi_wp2
      go_end0
      exact ⟨⟨_, rfl⟩, .inl ⟨xs, ⟨HND.out, HS.out⟩, HJ.out⟩⟩
    · have hj1 := hJ _ _ wn (some W.heap.size) hj (⟨hu1.os, hu1.tape, hu1.output, hu1.size, fun k hk he => hu1.block k hk fun e => he (by rw [e])⟩ : wr.grownBy wn (some W.heap.size)) (fun r hr => by cases hr; exact ⟨Nat.le_refl _, hR.isWalk⟩)
      have HJ2 := Lib.hid (hJ _ _ _ none hj1 (World.grownBy_alloc wn (.cells #[.int .i64 x.1, .int .i64 x.2] 44) none) (fun _ h => by cases h))
      have hxn : x ∉ xs := fun h => ((hxs x).1 h).2 hlx
      have hnd' : (xs ++ [x]).Nodup := by
        rw [List.nodup_append]
        exact ⟨hnd, by simp, fun a ha c hc e => by rw [List.mem_singleton] at hc; subst hc; exact hxn (e ▸ ha)⟩
      have HND2 := Lib.hid hnd'
      have HXS2 : Hid (∀ p, p ∈ xs ++ [x] ↔ F p ≠ none ∧ ¬ (left p ∧ p ≠ x)) := Lib.hid fun p => by
        rw [List.mem_append, List.mem_singleton, hxs]
        constructor
        · rintro (h | rfl)
          · exact ⟨h.1, fun h' => h.2 h'.1⟩
          · exact ⟨by rw [hfx]; simp, fun h => h.2 rfl⟩
        · rintro ⟨h1, h2⟩
          by_cases e : p = x
          · exact .inr e
          · exact .inl ⟨h1, fun h => h2 ⟨h, e⟩⟩
      have hlen : xs.length < N := by
        have := hN _ hnd' fun p hp => ((HXS2.out p).1 hp).1
        simp at this
        omega
      have HL1 : Hid (∀ p, (left p ∧ p ≠ x) → F p ≠ none) := Lib.hid fun p h => HLF.out p h.1
      have HR1 := Lib.hid ((hR1.upd ((Upd.refl Nowhere wn).alloc (.cells #[.int .i64 x.1, .int .i64 x.2] 44)) id id))
      have HLT := Lib.hid hlt1
      have hbw := Blk.new wn 44 #[.int .i64 x.1, .int .i64 x.2]
      have cw := hbw.cell
      obtain ⟨fn, tmps, assign, body, hy, hRound⟩ := hY xs x _ HJ2.out hlen
      clear hj hR hxs hnd hlf hj1 hxn hnd' hR1 hlt1 hu1 hsz1 hbw hfx hlx
      gi_wp2
      refine hRound.mono ?_
      rintro r W3 (⟨rfl, hJ3, hk3⟩ | ⟨rfl, hJx3⟩)
      · have HJ3 := Lib.hid hJ3
        have HR3 := Lib.hid (HR1.out.keptW hk3.1)
        clear hJ3 hk3 cw hy
        gi_wp2
        go_roundw
        case rel => exact ⟨_, cnt1, _, HR3.out, HJ3.out, HND2.out, HXS2.out, HL1.out⟩
        case measure =>
          rw [HR3.out.left_eq, HR.out.left_eq]
          exact HLT.out
      · have HJ3 := Lib.hid hJx3
        clear hJx3 cw hy
        gi_wp2
        refine bodyPost_ret (results_none rfl _ _ _) rfl ?_
        exact ⟨⟨_, rfl⟩, .inr ⟨_, trivial, HJ3.out⟩⟩
end Go.Proofs.Ytddknmgajacofaa
