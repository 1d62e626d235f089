/-
  A list of events, opened; what the law owes at its end (merged).
-/
import Derived.Test.YtddknmgajacofaaRows
import Derived.ProofKit
import Derived.Below
import Derived.OpenShut
import Derived.JoinedCond
import Derived.Test.YtddknmgajacofaaLib
import Derived.Lib.SmallJoins
import Derived.Deep.Slices
import Derived.Test.YtddknmgajacofaaKeepA
import Derived.Test.YtddknmgajacofaaHistC
namespace Go.Proofs.Ytddknmgajacofaa
open Go Go.ChangeShapes Go.WideShapes Go.ChangeAt Go.RowKit

theorem own_knob : ownKnob Try.prog.godebug = none := by kernel_rfl
theorem laid_out : laidOutB Try.prog = true := by kernel_rfl

section
variable {H : Type} {enc : TypeId × Value → H} {P : Program}

theorem trodAll_stays (hl : laidOutB P = true) {W W' : World} (hb : Below W.heap.size W W') {sp : Nat → Bool} : ∀ {ts : List TypeId} {vs : List Value} {ds : List (DataW H)} {p : List MemPlace},
    (∀ t ∈ ts, P.readableRec t = true ∧ t < P.types.size) → DataW.TrodAll enc P W 0 (fun _ => true) true ts vs ds p → (∀ x ∈ p, x.block < W.heap.size) → (∀ x ∈ p, sp x.block = true) → DataW.TrodAll enc P W' 0 sp true ts vs ds p := by
  intro ts
  induction ts with
  | nil =>
    intro vs ds p _ h _ _
    obtain ⟨rfl, rfl, rfl⟩ := trodAll_nil h
    exact trodAll_mk0
  | cons t ts ih =>
    intro vs ds p hr h hlt hsp
    obtain ⟨v, vs', d, ds', a, b, rfl, rfl, rfl, h1, h2⟩ := trodAll_cons h
    refine trodAll_cons_mk (WideElems.Trod_stays hl (hr t (by simp)).1 (hr t (by simp)).2 h1 (fun x hx => hb.same (hlt x (by simp [hx]))) (fun x hx => hsp x (by simp [hx]))) ?_
    exact ih (fun u hu => hr u (by simp [hu])) h2 (fun x hx => hlt x (by simp [hx])) (fun x hx => hsp x (by simp [hx]))

/-- A law that answered true and left all old memory alone has met its row. -/
theorem law_post {f : Func} {s : ChangeSpec} {W W' : World} {args : Array Value} {ds : List (DataW H)} {before : List MemPlace} {tb : TypeId}
    (hl : laidOutB P = true) (hr : ∀ t ∈ f.params.toList, P.readableRec t = true ∧ t < P.types.size) (hv : s.vars = [])
    (hW : DataW.Whole enc P f.params.toList s.vars false W args.toList ds [] before)
    (hfn : s.fn H (ds ++ []) = { results := [.lit (.bool true)], args := ds }) (hres : f.resultTypes = #[tb]) (htb : P.underlying tb = some .bool) (hb : Below W.heap.size W W') :
    s.post enc P f false true false false W args (.bool true) W' := by
  have hlt : ∀ p ∈ before, p.block < W.heap.size := fun p hp => hW.lt p hp
  have hW' := hW
  obtain ⟨p, q, hA, hV, hpq, _, _⟩ := hW
  rw [hv] at hV
  obtain ⟨_, rfl⟩ := trodVars_none hV
  simp only [List.append_nil] at hpq
  subst hpq
  refine ⟨ds, [], before, [], before, [], hW', ?_, ?_, ?_, World.keptBut_mono (fun p hp => ⟨hp, Or.inr (Or.inl hp)⟩) (hb.frame (· ∈ before)), fun h => by cases h⟩
  · rw [hfn, hres]
    exact trodAll_cons_mk (shut_bool htb true) trodAll_mk0
  · rw [hfn]
    exact trodAll_stays hl hb hr hA hlt (fun x hx => by simpa using hlt x hx)
  · rw [hfn, hv]
    rfl
end
end Go.Proofs.Ytddknmgajacofaa

namespace Go.Proofs.Ytddknmgajacofaa
open Go Go.ChangeShapes Go.WideShapes Go.ChangeAt Go.RowKit

theorem list_choose {α : Type} {Q : Nat → α → Prop} : ∀ (n : Nat), (∀ i, i < n → ∃ a, Q i a) → ∃ L : List α, L.length = n ∧ ∀ i a, L[i]? = some a → Q i a := by
  intro n
  induction n with
  | zero => intro _; exact ⟨[], rfl, fun i a h => by simp at h⟩
  | succ n ih =>
    intro h
    obtain ⟨L, hl, hL⟩ := ih fun i hi => h i (by omega)
    obtain ⟨a, ha⟩ := h n (by omega)
    refine ⟨L ++ [a], by simp [hl], fun i b hb => ?_⟩
    by_cases hi : i < n
    · rw [List.getElem?_append_left (by omega)] at hb
      exact hL i b hb
    · have hlt := (List.getElem?_eq_some_iff.1 hb).1
      simp at hlt
      obtain rfl : i = n := by omega
      rw [List.getElem?_append_right (by omega)] at hb
      simp [hl] at hb
      subst hb
      exact ha

/-- A slice v of elements of 'size' cells each, the i-th of which is L[i] by E. -/
def RowsAt {α : Type} (W : World) (size : Nat) (E : List Value → α → Prop) (v : Value) (L : List α) : Prop :=
  ∃ A c, v = .slice A L.length c ∧ L.length ≤ c ∧ c ≤ maxLen ∧ (0 < L.length → ∃ b off, A = some ⟨b, off, none⟩ ∧ b < W.heap.size ∧
    ∀ i a, L[i]? = some a → ∃ cs, cs.length = size ∧ E cs a ∧ ∀ j u, cs[j]? = some u → W.cell? ⟨b, off + i * size + j, none⟩ = some u)

theorem addr_add (b off : Nat) (n : Nat) : (⟨b, off, none⟩ : Addr).add n = ⟨b, off + n, none⟩ := by
  unfold Addr.add; split <;> simp_all

theorem cell_lt {W : World} {a : Addr} {v : Value} (h : W.cell? a = some v) : a.block < W.heap.size ∧ a.spot = none := by
  unfold World.cell? at h
  split at h
  · rename_i hh
    refine ⟨lt_of_heap hh, ?_⟩
    split at h
    · cases h
    · rename_i hs; simpa using hs
  · cases h

section
variable {H : Type} {enc : TypeId × Value → H} {P : Program} {W : World} {base : Nat} {held : Bool}
theorem open_rows {α : Type} {E : List Value → α → Prop} {t e : TypeId} {m : Nat} {v : Value} {y : DataW H × List MemPlace} {sp : Nat → Bool} (size : Nat) (hpos : 0 < size) (ht : P.underlying t = some (.slice e)) (hc : P.cellsOf e = size)
    (h : DataW.trod enc P W base sp held m t [v] = some y) (hE : ∀ n cs y, cs.length = size → DataW.trod enc P W base sp held n e cs = some y → ∃ a : α, E cs a) : ∃ L : List α, RowsAt W size E v L := by
  rcases Deep.open_slice ht h with ⟨e2, _⟩ | ⟨a, len, cap, k, n, D, Pl, e2, _, hl, hm, hk, _, hi⟩
  · simp only [List.cons.injEq, and_true] at e2
    subst e2
    exact ⟨[], none, 0, rfl, Nat.le_refl _, Nat.zero_le _, fun h => absurd h (by simp)⟩
  · simp only [List.cons.injEq, and_true] at e2
    subst e2
    have hlk : len ≤ k := by rw [hk]; split <;> omega
    obtain ⟨L, hL, hQ⟩ := list_choose (Q := fun i (x : α) => ∃ cs, cs.length = size ∧ E cs x ∧ ∀ j, j < size → W.cell? ((a.add (i * size)).add j) = cs[j]?) len (fun i hi' => by
      obtain ⟨cs, h1, h2⟩ := hi i (by omega)
      rw [hc] at h1
      obtain ⟨_, h3, h4⟩ := World.cells?_some h1
      obtain ⟨x, hx⟩ := hE n cs _ h3 h2
      exact ⟨x, cs, h3, hx, h4⟩)
    subst hL
    refine ⟨L, some a, cap, rfl, hl, hm, fun h0 => ?_⟩
    obtain ⟨cs0, hs0, _, hc0⟩ := hQ 0 L[0] (List.getElem?_eq_getElem h0)
    have h00 := hc0 0 hpos
    rw [List.getElem?_eq_getElem (by omega : 0 < cs0.length)] at h00
    obtain ⟨hb, hsp⟩ := cell_lt h00
    obtain ⟨b, off, s⟩ := a
    have hs' : s = none := by simpa [Addr.add] using hsp
    subst hs'
    refine ⟨b, off, rfl, by simpa [Addr.add] using hb, fun i x hx => ?_⟩
    obtain ⟨cs, h1, h2, h3⟩ := hQ i x hx
    refine ⟨cs, h1, h2, fun j u hj => ?_⟩
    have hj' := (List.getElem?_eq_some_iff.1 hj).1
    have h4 := h3 j (by omega)
    rw [addr_add, addr_add, hj] at h4
    exact h4

/-- A slice of bytes. -/
theorem open_bytes {t e : TypeId} {m : Nat} {v : Value} {y : DataW H × List MemPlace} {sp : Nat → Bool} (ht : P.underlying t = some (.slice e)) (he : P.underlying e = some (.int .u8)) (hc : P.cellsOf e = 1)
    (h : DataW.trod enc P W base sp held m t [v] = some y) : ∃ l : List UInt8, Reads W 1 v l.length (bytesV l) ∧ l.length ≤ maxLen := by
  obtain ⟨L, A, c, rfl, hlc, hcm, hat⟩ := open_rows (E := fun cs (b : UInt8) => cs = [byteV b]) 1 (by omega) ht hc h (fun n cs y hl hy => by
    obtain ⟨z, e0, _, hw⟩ := DataW.trod_int he hy
    have hz : 0 ≤ z ∧ z ≤ 255 := by simpa [Lit.wf, IntKind.min, IntKind.max, IntKind.signed, IntKind.bits] using hw
    refine ⟨UInt8.ofNat z.toNat, ?_⟩
    rw [e0, byteV]
    have : (UInt8.ofNat z.toNat).toNat = z.toNat := by simp; omega
    rw [this, Int.toNat_of_nonneg hz.1])
  refine ⟨L, ⟨A, c, rfl, hlc, by simp [bytesV], fun h0 => ?_⟩, by omega⟩
  obtain ⟨b, off, rfl, hb, hcell⟩ := hat h0
  refine ⟨_, rfl, hb, rfl, fun j u hj => ?_⟩
  rw [bytesV_get] at hj
  obtain ⟨x, hx, rfl⟩ := Option.map_eq_some_iff.1 hj
  obtain ⟨cs, _, rfl, h3⟩ := hcell j x hx
  rw [addr_add]
  simpa using h3 0 (byteV x) rfl
end
end Go.Proofs.Ytddknmgajacofaa

namespace Go.Proofs.Ytddknmgajacofaa
open Go Go.ChangeShapes Go.WideShapes Go.ChangeAt Go.RowKit

theorem els_of_rows {α : Type} {W : World} {size : Nat} {cells : α → List Value} (hpos : 0 < size) (hc : ∀ a, (cells a).length = size) {v : Value} {L : List α} (h : RowsAt W size (fun cs a => cs = cells a) v L) : Els size cells W v L := by
  obtain ⟨A, c, rfl, hlc, _, hat⟩ := h
  refine ⟨A, c, rfl, hlc, flatMap_len hc L, fun h0 => ?_⟩
  obtain ⟨b, off, rfl, hb, hrow⟩ := hat h0
  refine ⟨_, rfl, hb, rfl, fun j u hj => ?_⟩
  have hlt := (List.getElem?_eq_some_iff.1 hj).1
  rw [flatMap_len hc L] at hlt
  have hi : j / size < L.length := (Nat.div_lt_iff_lt_mul hpos).2 hlt
  have hr : j % size < size := Nat.mod_lt _ hpos
  have hjj : j / size * size + j % size = j := by rw [Nat.mul_comm]; exact Nat.div_add_mod j size
  obtain ⟨cs, _, rfl, hcell⟩ := hrow (j / size) L[j / size] (List.getElem?_eq_getElem hi)
  have hg := flatMap_get hc (List.getElem?_eq_getElem hi) (j % size) hr
  rw [hjj, hj] at hg
  rw [addr_add, ← hjj, ← Nat.add_assoc]
  exact hcell _ u hg.symm
section
variable {H : Type} {enc : TypeId × Value → H} {P : Program} {W : World} {base : Nat} {sp : Nat → Bool} {held : Bool}
/-- A slice of elements whose cells are known. -/
theorem open_els {α : Type} (size : Nat) (cells : α → List Value) (hpos : 0 < size) (hl : ∀ a, (cells a).length = size) {t e : TypeId} {v : Value} {d : DataW H} {p : List MemPlace} {r : Reach} {b0 : Nat} (ht : P.underlying t = some (.slice e)) (hv : Value.okWide P W r b0 t v) (hc : P.cellsOf e = size)
    (h : DataW.Trod enc P W base sp held t v d p) (hE : ∀ n cs y, cs.length = size → DataW.trod enc P W base sp held n e cs = some y → ∃ a : α, cs = cells a) : ∃ L : List α, Els size cells W v L := by
  obtain ⟨A, n, c, rfl⟩ := okWide_slice ht hv
  obtain ⟨fuel, hf⟩ := h
  obtain ⟨L, hL⟩ := open_rows (E := fun cs a => cs = cells a) size hpos ht hc hf hE
  exact ⟨L, els_of_rows hpos hl hL⟩
theorem trod_fields2 {t : TypeId} {f0 f1 : Field} {fuel : Nat} {cs : List Value} {x : DataW H × List MemPlace} (ht : P.underlying t = some (.struct #[f0, f1])) (h : DataW.trod enc P W base sp held fuel t cs = some x) :
    (∃ y n, DataW.trod enc P W base sp held n f0.type ((cs.drop f0.offset).take (P.cellsOf f0.type)) = some y) ∧
      (∃ y n, DataW.trod enc P W base sp held n f1.type ((cs.drop f1.offset).take (P.cellsOf f1.type)) = some y) := by
  obtain ⟨xs, n, _, rfl, hl, hlen, hf⟩ := DataW.trod_struct ht h
  match xs, hlen with
  | [y0, y1], _ => exact ⟨⟨y0, n, by simpa using hf 0 f0 rfl⟩, ⟨y1, n, by simpa using hf 1 f1 rfl⟩⟩
theorem trod_fields4 {t : TypeId} {f0 f1 f2 f3 : Field} {fuel : Nat} {cs : List Value} {x : DataW H × List MemPlace} (ht : P.underlying t = some (.struct #[f0, f1, f2, f3])) (h : DataW.trod enc P W base sp held fuel t cs = some x) :
    (∃ y n, DataW.trod enc P W base sp held n f0.type ((cs.drop f0.offset).take (P.cellsOf f0.type)) = some y) ∧
      (∃ y n, DataW.trod enc P W base sp held n f1.type ((cs.drop f1.offset).take (P.cellsOf f1.type)) = some y) ∧
      (∃ y n, DataW.trod enc P W base sp held n f2.type ((cs.drop f2.offset).take (P.cellsOf f2.type)) = some y) ∧
      (∃ y n, DataW.trod enc P W base sp held n f3.type ((cs.drop f3.offset).take (P.cellsOf f3.type)) = some y) := by
  obtain ⟨xs, n, _, rfl, hl, hlen, hf⟩ := DataW.trod_struct ht h
  match xs, hlen with
  | [y0, y1, y2, y3], _ => exact ⟨⟨y0, n, by simpa using hf 0 f0 rfl⟩, ⟨y1, n, by simpa using hf 1 f1 rfl⟩, ⟨y2, n, by simpa using hf 2 f2 rfl⟩, ⟨y3, n, by simpa using hf 3 f3 rfl⟩⟩
theorem trod_slice {t e : TypeId} {n : Nat} {v : Value} {y : DataW H × List MemPlace} (ht : P.underlying t = some (.slice e)) (h : DataW.trod enc P W base sp held n t [v] = some y) : ∃ A k c, v = .slice A k c := by
  rcases Deep.open_slice ht h with ⟨e2, _⟩ | ⟨a, len, cap, k, m, D, Pl, e2, _⟩
  · simp only [List.cons.injEq, and_true] at e2
    exact ⟨_, _, _, e2⟩
  · simp only [List.cons.injEq, and_true] at e2
    exact ⟨_, _, _, e2⟩
end
end Go.Proofs.Ytddknmgajacofaa

namespace Go.Proofs.Ytddknmgajacofaa
open Go Go.ChangeShapes Go.WideShapes Go.ChangeAt Go.RowKit

set_option maxRecDepth 100000
section
variable {H : Type} {enc : TypeId × Value → H} {W : World} {base : Nat} {sp : Nat → Bool} {held : Bool}
theorem one_int : Try.prog.cellsOf 3 = 1 := by kernel_rfl
theorem one_bool : Try.prog.cellsOf 4 = 1 := by kernel_rfl
theorem one_string : Try.prog.cellsOf 9 = 1 := by kernel_rfl
theorem two_value : Try.prog.cellsOf 35 = 2 := by kernel_rfl
theorem event_open {n : Nat} {cs : List Value} {y : DataW H × List MemPlace} (hl : cs.length = 5) (h : DataW.trod enc Try.prog W base sp held n 41 cs = some y) : ∃ e : EvD, cs = e.cells := by
  match cs, hl with
  | [c0, c1, c2, c3, c4], _ =>
    obtain ⟨⟨z0, m0, g0⟩, ⟨z1, m1, g1⟩, ⟨z2, m2, g2⟩, ⟨z3, m3, g3⟩⟩ := trod_fields4 Try.underlying41 h
    simp only [one_int, one_string, two_value, List.drop_succ_cons, List.drop_zero, List.take_succ_cons, List.take_zero] at g0 g1 g2 g3
    obtain ⟨⟨z4, m4, g4⟩, ⟨z5, m5, g5⟩⟩ := trod_fields2 Try.underlying35 g3
    simp only [one_bool, one_string, List.drop_succ_cons, List.drop_zero, List.take_succ_cons, List.take_zero] at g4 g5
    obtain ⟨k0, e0, _, _⟩ := DataW.trod_int Try.underlying3 g0
    obtain ⟨k1, e1, _, _⟩ := DataW.trod_int Try.underlying3 g1
    obtain ⟨k2, e2, _, _⟩ := DataW.trod_string Try.underlying9 g2
    obtain ⟨k4, e4, _⟩ := DataW.trod_bool Try.underlying4 g4
    obtain ⟨k5, e5, _, _⟩ := DataW.trod_string Try.underlying9 g5
    simp only [List.cons.injEq, and_true] at e0 e1 e2 e4 e5
    subst e0 e1 e2 e4 e5
    exact ⟨⟨k0, k1, k2, k4, k5⟩, rfl⟩
theorem num_open {n : Nat} {cs : List Value} {y : DataW H × List MemPlace} (_hl : cs.length = 1) (h : DataW.trod enc Try.prog W base sp held n 3 cs = some y) : ∃ k : Int, cs = [.int .i64 k] := by
  obtain ⟨k, e, _, _⟩ := DataW.trod_int Try.underlying3 h
  exact ⟨k, e⟩
end
end Go.Proofs.Ytddknmgajacofaa
