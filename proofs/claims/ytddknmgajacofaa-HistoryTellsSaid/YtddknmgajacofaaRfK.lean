/-
  Ranges over functions whose bodies change maps of their own (merged).
-/
import Derived.RangeFuncNested
import Derived.Test.YtddknmgajacofaaHistK
namespace Go.Proofs.Ytddknmgajacofaa
open Go Go.RowKit

/-- An iterator that makes blocks, and changes none: what abides new blocks abides it. -/
def SeqNew {α : Type} (F : Fence) (n : Nat) (P : Program) (g : Nat) (lb : Array Value) (encs : α → Array Value) (Kp : World → World → Prop) (S Sp : List α → Prop) (N : Nat) (w : World) : Prop :=
  ∀ (l : Nat) (J Jx : List α → World → Prop) (W : World), Below w.heap.size w W → (∀ s X o, J s X → J s (X.alloc o)) → (∀ s X o, Jx s X → Jx s (X.alloc o)) →
    (∀ pre x W1, J pre W1 → pre.length < N → YieldAt F (n - 1) P l (encs x) W1 fun e W' =>
      (e = .returned (.bool true) ∧ J (pre ++ [x]) W' ∧ Kp W1 W') ∨ (e = .returned (.bool false) ∧ Jx (pre ++ [x]) W')) →
    J [] W →
    CallsIn F n P g (#[.func (.yield l) #[] #[]] ++ lb) W fun e W' => (∃ v, e = .returned v) ∧ ((∃ xs, S xs ∧ J xs W') ∨ (∃ pre, Sp pre ∧ Jx pre W'))
/-- What a round leaves: the loop's two blocks as they were, its frame, its invariant. -/
def PostB {α : Type} (d : Nat) (Kp : World → World → Prop) (I : List α → World → Prop) (xs : List α) (W : World) : Exit → Act → World → Prop
  | .normal, _, W' => (W'.heap[d]? = W.heap[d]? ∧ W'.heap[d + 1]? = W.heap[d + 1]?) ∧ Kp W W' ∧ I xs W'
  | _, _, _ => False
/-- An invariant abides what the iterator does to its own blocks, and what the loop does to its two. -/
def OwnB {α : Type} (d : Nat) (I : List α → World → Prop) : Prop := ∀ s A B row, I s A → A.grownBy B row → (∀ r, row = some r → d ≤ r ∧ r < d + 2) → I s B
section
variable {F : Fence} {n : Nat} {P : Program} {w : World}
theorem OwnB.put {α : Type} {d : Nat} {I : List α → World → Prop} (hI : OwnB d I) {s : List α} {W : World} (hi : I s W) {l : Nat} (hl : d ≤ l ∧ l < d + 2) (o' : Obj) : I s (W.putObj l o') :=
  hI s W _ (some l) hi (grownBy_putObj' W l o') fun r hr => by cases hr; exact hl
theorem OwnB.alloc {α : Type} {d : Nat} {I : List α → World → Prop} (hI : OwnB d I) {s : List α} {W : World} (hi : I s W) (o : Obj) : I s (W.alloc o) :=
  hI s W _ none hi (World.grownBy_alloc W o none) fun r hr => by cases hr

theorem rangeFunc_book {α : Type} {g : Operand} {ps : Array Tmp} {assign body : Code} {Q : Exit → Act → World → Prop} {a : Act}
    (hro : F.round = none) (h1 : 1 ≤ n) {gf : Nat} {lb : Array Value} (hg : a.eval g = .func (.func gf) #[] lb) (hFg : F.fn gf) (eg : ∀ args w, (callFunc gf args).run P w = .ok (.enter gf args) w)
    {encs : α → Array Value} {Kp : World → World → Prop} {S Sp : List α → Prop} {N : Nat} {w0 : World} (hseq : SeqNew F (n - 1) P gf lb encs Kp S Sp N w0)
    (hKt : ∀ {A B C : World}, Kp A B → Kp B C → Kp A C) (hKb : ∀ (W : World) (l : Nat) (o' : Obj), w.heap.size ≤ l → l < w.heap.size + 2 → Kp W (W.putObj l o')) (hb0 : Below w0.heap.size w0 w) (hps : ∀ x, (encs x).size = ps.size)
    (I : List α → World → Prop) (hI : OwnB w.heap.size I) (h0 : I [] w)
    (Ax : α → Act → World → Prop) (hAx : ∀ x a', OwnB w.heap.size (fun (_ : List α) W => Ax x a' W))
    (hassign : ∀ (l : Nat) (pre : List α) (x : α) (W : World) (K : Act → World → Prop), I pre W → (∀ a' W', (W'.heap[w.heap.size]? = W.heap[w.heap.size]? ∧ W'.heap[w.heap.size + 1]? = W.heap[w.heap.size + 1]?) → Kp W W' → I pre W' → Ax x a' W' → K a' W') → w.heap.size + 2 ≤ W.heap.size →
      assign.wpIn (F.inRound l) (n - 1 - 1) P (Exit.then K (fun _ _ _ => False)) { tmps := (ps.zip (encs x)).foldl (fun t (p, v) => t.setIfInBounds p v) a.tmps, defers := [] } W)
    (hbody : ∀ (l : Nat) (pre : List α) (x : α) (a' : Act) (W : World), w.heap.size + 2 ≤ W.heap.size → I pre W → Ax x a' W → pre.length < N → body.wpIn (F.inRound l) (n - 1 - 1) P (PostB w.heap.size Kp I (pre ++ [x]) W) a' W)
    (hdone : ∀ (D : Nat) (xs : List α) (W : World), w.heap.size ≤ D → S xs → I xs W → W.heap[D]? = some (.deferred (some [])) → Q .normal { a with defers := { target := .collected D, args := #[] } :: a.defers } W) :
    (Code.rangeFunc g ps assign body).wpIn F n P Q a w := by
  refine wpIn_rangeFunc fun fn hfn => ?_
  rw [hro]
  generalize hd : w.heap.size = d at *
  have hrecx : ∃ rec : LoopState → Option Code → Loop, rec = fun st pe => { state := st, pending := pe, fn, tmps := a.tmps, params := ps, assign, body, defers := d } := ⟨_, rfl⟩
  obtain ⟨rec, hrec⟩ := hrecx
  obtain ⟨W1, hW1⟩ : ∃ W1, W1 = (w.alloc (.deferred (some []))).alloc (.loop (rec .ready none)) := ⟨_, rfl⟩
  have hL : W1.heap[d + 1]? = some (.loop (rec .ready none)) := by
    have := World.alloc_heap_new (w.alloc (.deferred (some []))) (.loop (rec .ready none))
    rw [World.size_alloc, hd] at this
    rw [hW1]; exact this
  have hD : W1.heap[d]? = some (.deferred (some [])) := by
    rw [hW1, Below.heap_alloc _ _ _ (by simp; omega), ← hd]
    exact World.alloc_heap_new w _
  have hI1 : I [] W1 := by rw [hW1]; exact hI.alloc (hI.alloc h0 _) _
  have hbl : Below w0.heap.size w0 W1 := by
    rw [hW1]
    exact hb0.trans ((((Below.refl _ w).alloc (Nat.le_refl _) _).alloc (by simp) _).mono hb0.size)
  have hs1 : W1.heap.size = d + 2 := by rw [hW1]; simp; omega
  refine ⟨d + 1, [{ target := .collected d, args := #[] }], W1, { target := .fn (.func gf) lb, args := #[.func (.yield (d + 1)) #[] #[]] }, W1, gf, #[.func (.yield (d + 1)) #[] #[]] ++ lb, W1, ?_, ?_, ?_, ?_, fun _ => h1, ?_⟩
  · rw [hW1, hrec, ← hd]; exact run_enterLoop_outer _ _ _ _ _
  · simp only [resolve, hg]
    simp [go_sem]
  · intro f' hf'
    simp [Target.leads] at hf'
    subst hf'
    exact hFg
  · simp [invoke, go_sem, eg]
  · refine (hseq (d + 1) (fun pre W => I pre W ∧ W.heap[d + 1]? = some (.loop (rec .ready none)) ∧ W.heap[d]? = some (.deferred (some []))) (fun _ _ => False) W1 hbl ?hJ (fun _ _ _ h => h) ?hround ⟨hI1, hL, hD⟩).mono ?hfin
    case hJ =>
      rintro s X o ⟨hi, hl, hk⟩
      exact ⟨hI.alloc hi o, (Below.heap_alloc _ _ _ (Array.getElem?_eq_some_iff.1 hl).1).trans hl, (Below.heap_alloc _ _ _ (Array.getElem?_eq_some_iff.1 hk).1).trans hk⟩
    case hround =>
      rintro pre x W ⟨hi, hl, hk⟩ hlen
      have hy := run_yield (P := P) (args := encs x) hl (by rw [hrec]; exact hps x)
      rw [hrec] at hy
      refine ⟨fn, _, assign, body, hy, roundIn_of_wpIn hfn (hassign _ pre x W _ hi ?_ (by have := (Array.getElem?_eq_some_iff.1 hl).1; omega))⟩
      intro a' Wa hka hkp hia hax
      have hl' := hka.2.trans hl
      have hk' := hka.1.trans hk
      have hlt := (Array.getElem?_eq_some_iff.1 hl').1
      refine ⟨_, run_beginRound hl' (by rw [hrec]), ?_⟩
      have hl2 : (Wa.putObj (d + 1) (.loop { rec .ready none with state := .busy })).heap[d + 1]? = some (.loop { rec .ready none with state := .busy }) := World.putObj_heap_same hlt
      have hk2 : (Wa.putObj (d + 1) (.loop { rec .ready none with state := .busy })).heap[d]? = some (.deferred (some [])) := (World.putObj_heap_other (by omega)).trans hk'
      have hs2 : d + 2 ≤ (Wa.putObj (d + 1) (.loop { rec .ready none with state := .busy })).heap.size := by have := (Array.getElem?_eq_some_iff.1 hl2).1; omega
      refine wpIn_mono (hbody _ pre x a' _ hs2 (hI.put hia ⟨by omega, by omega⟩ _) ((hAx x a').put (s := []) hax ⟨by omega, by omega⟩ _) hlen) ?_
      rintro e a3 W3 hp
      cases e with
      | normal =>
        obtain ⟨⟨e1, e2⟩, hkp3, hi3⟩ := hp
        have hl3 := e2.trans hl2
        have hk3 := e1.trans hk2
        have hr := run_endRound (P := P) none hl3
        rw [hrec] at hr hl3
        refine ⟨_, _, hr, .inl ⟨rfl, ⟨hI.put hi3 ⟨by omega, by omega⟩ _, ?_, (World.putObj_heap_other (by omega)).trans hk3⟩, hKt hkp (hKt (hKt (hKb _ _ _ (by omega) (by omega)) hkp3) (hKb _ _ _ (by omega) (by omega)))⟩⟩
        rw [hrec]
        exact World.putObj_heap_same (Array.getElem?_eq_some_iff.1 hl3).1
      | ret => exact hp.elim
      | exit id => exact hp.elim
      | goto t => exact hp.elim
      | panic ch => exact hp.elim
      | outgrown => exact hp.elim
    case hfin =>
      rintro e W2 ⟨⟨v, rfl⟩, (⟨xs, hS, hi, hl, hk⟩ | ⟨pre, hSp, h⟩)⟩
      · have hr := run_endLoop (P := P) hl (by rw [hrec]; simp)
        rw [hrec] at hr
        exact ⟨none, _, hr, hdone _ xs _ (Nat.le_refl _) hS (hI.put hi ⟨by omega, by omega⟩ _) ((World.putObj_heap_other (by omega)).trans hk)⟩
      · exact h.elim
end
end Go.Proofs.Ytddknmgajacofaa

namespace Go.Proofs.Ytddknmgajacofaa
open Go Go.RowKit Go.Shelf
attribute [local go_sem] Oper.semAt_some

set_option maxHeartbeats 4000000 in
set_option maxRecDepth 100000 in
/-- The iterator: each event that counts comes, in their order, whatever the body does, so long as it leaves the table and the list alone. -/
theorem wks_new {F : Nat → Prop} {w : World} {v : Value} {l : List EvD} (h : EvsE w v l) (hl : l.length ≤ 1000) (hF : l ≠ [] → ∀ k, v.ownBlock = some k → ¬ F k) {b1 b3 bm : Nat} (h1 : Blk w b1 22 #[v]) (h3 : Blk w b3 47 #[.map (some bm)]) (hm : MapIs encI w bm (atF l l.length))
    (n3 : ¬ F b3) (nm : ¬ F bm) (n : Nat) (hn : 1 ≤ n) :
    SeqNew Fence.wide n Try.prog 45 #[.pointer (some ⟨b1, 0, none⟩), .pointer (some ⟨b3, 0, none⟩)] (fun e : EvD => #[.agg e.arr]) (Upd F) (fun xs => xs = wksN l l.length) (fun _ => True) l.length w := by
  intro ll J Jx W hW hJ hJx hY h0
  obtain ⟨A, c, rfl, hc⟩ := h.val
  have H := Lib.hid (h.below hW)
  have H1 := Lib.hid (h1.below hW h1.lt)
  have H3 := Lib.hid (h3.below hW h3.lt)
  have HM := Lib.hid (hm.of_block (hW.block _ hm.lt))
  have c1 := H1.out.cell
  clear h h1 h3 hm hW
  refine callsIn_of_wp Try.func45 rfl trivial ?_ rfl
  simp only [Try.ntmps45, List.size_toArray, List.length_cons, List.length_nil, Nat.reduceAdd, Nat.reduceSub, Array.replicate_succ, Array.replicate_zero, List.push_toArray, List.append_toArray, List.nil_append, List.cons_append]
  gi_wp2
  gi_loopw [10] (fun t wr => ∃ k : Nat, k ≤ l.length ∧ t = .int .i64 k ∧ J (wksN l k) wr ∧ Upd F W wr) (fun t _ => l.length - (intOf t).toNat)
  case atStart => exact ⟨0, by omega, rfl, h0, Upd.refl _ _⟩
  case round =>
    obtain ⟨k, hk, rfl, hj, hu⟩ := hrel
    by_cases hlt : k < l.length
    · obtain ⟨⟨kd, tx, key, has, data⟩, he⟩ : ∃ e, l[k]? = some e := ⟨_, List.getElem?_eq_getElem hlt⟩
      obtain ⟨b, off, c', hE, hb, q0, q1, q2, q3, q4⟩ := event_at (H.out.upd hu (hF (fun e => by subst e; simp at he))) he
      cases hE
      have hi : (k : Int) < (l.length : Nat) := by omega
      have hb0 := Blk.new wr 41 #[.int .i64 kd, .int .i64 tx, .string key, .bool has, .string data]
      have cb := hb0.cell
      have c3 := ((H3.out.upd hu n3).alloc (.cells #[.int .i64 kd, .int .i64 tx, .string key, .bool has, .string data] 41)).cell
      have HM2 := Lib.hid ((HM.out.upd hu nm).alloc (.cells #[.int .i64 kd, .int .i64 tx, .string key, .bool has, .string data] 41))
      have HJ2 := Lib.hid (hJ _ _ (.cells #[.int .i64 kd, .int .i64 tx, .string key, .bool has, .string data] 41) hj)
      have HU2 := Lib.hid (hu.alloc (.cells #[.int .i64 kd, .int .i64 tx, .string key, .bool has, .string data] 41))
      have HE := Lib.hid he
      clear hb0 hu he hj
      cases hat : atN l l.length tx with
      | none =>
        have hl1 : (Instr.lookup 47 (.map (some bm)) (.int .i64 tx) true).run Try.prog (wr.alloc (.cells #[.int .i64 kd, .int .i64 tx, .string key, .bool has, .string data] 41)) = .ok (.tuple #[.int .i64 0, .bool false]) (wr.alloc (.cells #[.int .i64 kd, .int .i64 tx, .string key, .bool has, .string data] 41)) := by
          simpa [atF, hat] using HM2.out.look KI Try.underlying47 Try.underlying3 (Try.zeroValue3 _) tx true
        have HW : Hid (wkOf l ⟨kd, tx, key, has, data⟩ k = false) := Lib.hid (by rw [wkOf_at, show atN l l.length (EvD.mk kd tx key has data).tx = none from hat]; simp)
        clear hat
        gi_wp2
        go_roundw
        case rel => exact ⟨k + 1, by omega, by go_num, by rw [wksN_miss HE.out HW.out]; exact HJ2.out, HU2.out⟩
        case measure => simp [intOf]; omega
      | some j =>
        have hl1 : (Instr.lookup 47 (.map (some bm)) (.int .i64 tx) true).run Try.prog (wr.alloc (.cells #[.int .i64 kd, .int .i64 tx, .string key, .bool has, .string data] 41)) = .ok (.tuple #[.int .i64 (j : Nat), .bool true]) (wr.alloc (.cells #[.int .i64 kd, .int .i64 tx, .string key, .bool has, .string data] 41)) := by
          simpa [atF, hat] using HM2.out.look KI Try.underlying47 Try.underlying3 (Try.zeroValue3 _) tx true
        have HAT := Lib.hid hat
        clear hat
        by_cases hkj : k < j
        · have hkj' : ¬ j ≤ k := by omega
          by_cases h1 : kd = 1
          · have HW : Hid (wkOf l ⟨kd, tx, key, has, data⟩ k = true) := Lib.hid (by rw [wkOf_at, show atN l l.length (EvD.mk kd tx key has data).tx = some j from HAT.out]; simp [h1, hkj])
            subst h1
            obtain ⟨fn, tmps, assign, body, hy, hR⟩ := hY _ ⟨1, tx, key, has, data⟩ _ HJ2.out (by have := wksN_len l k; omega)
            dsimp only [EvD.arr] at hy
            gi_wp2
            refine hR.mono ?_
            rintro r W3 (⟨rfl, hJ3, hk3⟩ | ⟨rfl, hJx3⟩)
            · have HJ3 := Lib.hid hJ3
              have HU3 := Lib.hid (HU2.out.trans hk3 fun _ _ => id)
              clear hJ3 hk3
              gi_wp2
              go_roundw
              case rel => exact ⟨k + 1, by omega, by go_num, by rw [wksN_hit HE.out HW.out]; exact HJ3.out, HU3.out⟩
              case measure => simp [intOf]; omega
            · have HJ3 := Lib.hid hJx3
              clear hJx3
              gi_wp2
              refine bodyPost_ret (results_none rfl _ _ _) rfl ?_
              exact ⟨⟨_, rfl⟩, .inr ⟨_, trivial, HJ3.out⟩⟩
          · by_cases h2 : kd = 2
            · have HW : Hid (wkOf l ⟨kd, tx, key, has, data⟩ k = true) := Lib.hid (by rw [wkOf_at, show atN l l.length (EvD.mk kd tx key has data).tx = some j from HAT.out]; simp [h2, hkj])
              subst h2
              obtain ⟨fn, tmps, assign, body, hy, hR⟩ := hY _ ⟨2, tx, key, has, data⟩ _ HJ2.out (by have := wksN_len l k; omega)
              dsimp only [EvD.arr] at hy
              gi_wp2
              refine hR.mono ?_
              rintro r W3 (⟨rfl, hJ3, hk3⟩ | ⟨rfl, hJx3⟩)
              · have HJ3 := Lib.hid hJ3
                have HU3 := Lib.hid (HU2.out.trans hk3 fun _ _ => id)
                clear hJ3 hk3
                gi_wp2
                go_roundw
                case rel => exact ⟨k + 1, by omega, by go_num, by rw [wksN_hit HE.out HW.out]; exact HJ3.out, HU3.out⟩
                case measure => simp [intOf]; omega
              · have HJ3 := Lib.hid hJx3
                clear hJx3
                gi_wp2
                refine bodyPost_ret (results_none rfl _ _ _) rfl ?_
                exact ⟨⟨_, rfl⟩, .inr ⟨_, trivial, HJ3.out⟩⟩
            · have HW : Hid (wkOf l ⟨kd, tx, key, has, data⟩ k = false) := Lib.hid (by rw [wkOf_at, show atN l l.length (EvD.mk kd tx key has data).tx = some j from HAT.out]; simp [h1, h2])
              have hb1 : (kd != 1) = true := by simp [h1]
              have hb2 : (kd != 2) = true := by simp [h2]
              gi_wp2
              go_roundw
              case rel => exact ⟨k + 1, by omega, by go_num, by rw [wksN_miss HE.out HW.out]; exact HJ2.out, HU2.out⟩
              case measure => simp [intOf]; omega
        · have hkj' : j ≤ k := by omega
          have HW : Hid (wkOf l ⟨kd, tx, key, has, data⟩ k = false) := Lib.hid (by rw [wkOf_at, show atN l l.length (EvD.mk kd tx key has data).tx = some j from HAT.out]; simp [hkj])
          gi_wp2
          go_roundw
          case rel => exact ⟨k + 1, by omega, by go_num, by rw [wksN_miss HE.out HW.out]; exact HJ2.out, HU2.out⟩
          case measure => simp [intOf]; omega
    · have hi : ¬ (k : Int) < (l.length : Nat) := by omega
      obtain rfl : k = l.length := by omega
      have HJ2 := Lib.hid hj
      clear hj hu
      gi_wp2
      go_end0
      exact ⟨⟨_, rfl⟩, .inl HJ2.out⟩
end Go.Proofs.Ytddknmgajacofaa
