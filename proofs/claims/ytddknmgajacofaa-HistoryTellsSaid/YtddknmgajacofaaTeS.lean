/-
  Who has read and written which key, and who is ahead of whom: the program's tables, plain and in memory.
-/
import Derived.Test.YtddknmgajacofaaTeQ
import Derived.Test.YtddknmgajacofaaTeR
import Derived.Test.YtddknmgajacofaaTeH
namespace Go.Proofs.Ytddknmgajacofaa
open Go Go.RowKit

def rdP (pre : List EvD) (K : ByteArray) (t : Int) : Prop := ∃ e ∈ pre, e.key = K ∧ e.kind ≠ 2 ∧ e.tx = t
def wrP (pre : List EvD) (K : ByteArray) (t : Int) : Prop := ∃ e ∈ pre, e.key = K ∧ e.kind = 2 ∧ e.tx = t
/-- Of those who are there already: who is ahead of e? -/
def beh (pre : List EvD) (e : EvD) (t : Int) : Prop := t ≠ e.tx ∧ (wrP pre e.key t ∨ (e.kind = 2 ∧ rdP pre e.key t))
def fndP (pre : List EvD) (p : Int × Int) : Prop := ∃ A e B, pre = A ++ e :: B ∧ p.1 = e.tx ∧ beh A e p.2
theorem fndP_nil (p : Int × Int) : ¬ fndP [] p := fun ⟨A, e, B, h, _⟩ => by
  have := congrArg List.length h
  simp at this
theorem fndP_snoc (pre : List EvD) (e : EvD) (p : Int × Int) : fndP (pre ++ [e]) p ↔ fndP pre p ∨ (p.1 = e.tx ∧ beh pre e p.2) := by
  constructor
  · rintro ⟨A, x, B, h, h1, h2⟩
    rcases List.eq_nil_or_concat B with rfl | ⟨B', y, rfl⟩
    · obtain ⟨rfl, he⟩ := List.append_inj' h rfl
      cases he
      exact .inr ⟨h1, h2⟩
    · have h3 : pre ++ [e] = (A ++ x :: B') ++ [y] := by rw [h]; simp
      obtain ⟨rfl, he⟩ := List.append_inj' h3 rfl
      exact .inl ⟨A, x, B', rfl, h1, h2⟩
  · rintro (⟨A, x, B, rfl, h1, h2⟩ | ⟨h1, h2⟩)
    · exact ⟨A, x, B ++ [e], by simp, h1, h2⟩
    · exact ⟨pre, e, [], rfl, h1, h2⟩
theorem rdP_snoc (pre : List EvD) (e : EvD) (K : ByteArray) (t : Int) : rdP (pre ++ [e]) K t ↔ rdP pre K t ∨ (e.key = K ∧ e.kind ≠ 2 ∧ e.tx = t) := by
  unfold rdP
  constructor
  · rintro ⟨x, hx, h⟩
    rcases List.mem_append.1 hx with hx | hx
    · exact .inl ⟨x, hx, h⟩
    · rw [List.mem_singleton] at hx; subst hx; exact .inr h
  · rintro (⟨x, hx, h⟩ | h)
    · exact ⟨x, List.mem_append_left _ hx, h⟩
    · exact ⟨e, by simp, h⟩
theorem wrP_snoc (pre : List EvD) (e : EvD) (K : ByteArray) (t : Int) : wrP (pre ++ [e]) K t ↔ wrP pre K t ∨ (e.key = K ∧ e.kind = 2 ∧ e.tx = t) := by
  unfold wrP
  constructor
  · rintro ⟨x, hx, h⟩
    rcases List.mem_append.1 hx with hx | hx
    · exact .inl ⟨x, hx, h⟩
    · rw [List.mem_singleton] at hx; subst hx; exact .inr h
  · rintro (⟨x, hx, h⟩ | h)
    · exact ⟨x, List.mem_append_left _ hx, h⟩
    · exact ⟨e, by simp, h⟩
theorem wks_mem (l : List EvD) (x : EvD) : ∀ n, x ∈ wksN l n ↔ ∃ i, i < n ∧ l[i]? = some x ∧ wkOf l x i = true := by
  intro n
  induction n with
  | zero => simp [wksN]
  | succ n ih =>
    cases he : l[n]? with
    | none =>
      simp only [wksN, he]
      rw [ih]
      constructor
      · rintro ⟨i, h1, h2⟩; exact ⟨i, by omega, h2⟩
      · rintro ⟨i, h1, h2, h3⟩
        rcases (by omega : i < n ∨ i = n) with h | rfl
        · exact ⟨i, h, h2, h3⟩
        · rw [he] at h2; cases h2
    | some e =>
      cases hw : wkOf l e n with
      | true =>
        rw [wksN_hit he hw, List.mem_append, ih, List.mem_singleton]
        constructor
        · rintro (⟨i, h1, h2⟩ | rfl)
          · exact ⟨i, by omega, h2⟩
          · exact ⟨n, by omega, he, hw⟩
        · rintro ⟨i, h1, h2, h3⟩
          rcases (by omega : i < n ∨ i = n) with h | rfl
          · exact .inl ⟨i, h, h2, h3⟩
          · rw [he] at h2; cases h2; exact .inr rfl
      | false =>
        rw [wksN_miss he hw, ih]
        constructor
        · rintro ⟨i, h1, h2⟩; exact ⟨i, by omega, h2⟩
        · rintro ⟨i, h1, h2, h3⟩
          rcases (by omega : i < n ∨ i = n) with h | rfl
          · exact ⟨i, h, h2, h3⟩
          · rw [he] at h2; cases h2; rw [hw] at h3; cases h3
theorem fnd_pairs (l : List EvD) (p : Int × Int) : ∀ n, fndP (wksN l n) p ↔ ∃ i k, i < k ∧ k < n ∧ PairAt l i k p := by
  intro n
  induction n with
  | zero =>
    constructor
    · intro h; exact absurd h (fndP_nil p)
    · rintro ⟨_, _, _, h, _⟩; omega
  | succ n ih =>
    cases he : l[n]? with
    | none =>
      simp only [wksN, he]
      rw [ih]
      constructor
      · rintro ⟨i, k, h1, h2, h3⟩; exact ⟨i, k, h1, by omega, h3⟩
      · rintro ⟨i, k, h1, h2, h3⟩
        rcases (by omega : k < n ∨ k = n) with h | rfl
        · exact ⟨i, k, h1, h, h3⟩
        · obtain ⟨a, b, _, h4, _⟩ := h3
          rw [he] at h4; cases h4
    | some e =>
      cases hw : wkOf l e n with
      | false =>
        rw [wksN_miss he hw, ih]
        constructor
        · rintro ⟨i, k, h1, h2, h3⟩; exact ⟨i, k, h1, by omega, h3⟩
        · rintro ⟨i, k, h1, h2, h3⟩
          rcases (by omega : k < n ∨ k = n) with h | rfl
          · exact ⟨i, k, h1, h, h3⟩
          · obtain ⟨a, b, _, h4, _, h5, _⟩ := h3
            rw [he] at h4; cases h4
            rw [hw] at h5; cases h5
      | true =>
        rw [wksN_hit he hw, fndP_snoc, ih]
        constructor
        · rintro (⟨i, k, h1, h2, h3⟩ | ⟨h1, h2, h3⟩)
          · exact ⟨i, k, h1, by omega, h3⟩
          · have key : ∃ a ∈ wksN l n, a.key = e.key ∧ a.tx = p.2 ∧ (a.kind = 2 ∨ e.kind = 2) := by
              rcases h3 with ⟨a, ha, hk, hkd, ht⟩ | ⟨h4, a, ha, hk, _, ht⟩
              · exact ⟨a, ha, hk, ht, .inl hkd⟩
              · exact ⟨a, ha, hk, ht, .inr h4⟩
            obtain ⟨a, ha, hk, ht, hkd⟩ := key
            obtain ⟨i, h5, h6, h7⟩ := (wks_mem l a n).1 ha
            exact ⟨i, n, h5, by omega, a, e, h6, he, h7, hw, by rw [ht]; exact h2, hk, hkd, Prod.ext h1 ht.symm⟩
        · rintro ⟨i, k, h1, h2, h3⟩
          rcases (by omega : k < n ∨ k = n) with h | rfl
          · exact .inl ⟨i, k, h1, h, h3⟩
          · obtain ⟨a, b, h4, h5, h6, h7, h8, h9, h10, rfl⟩ := h3
            rw [he] at h5
            cases h5
            have ha := (wks_mem l a k).2 ⟨i, h1, h4, h6⟩
            refine .inr ⟨rfl, h8, ?_⟩
            by_cases h2 : a.kind = 2
            · exact .inl ⟨a, ha, h9, h2, rfl⟩
            · exact .inr ⟨h10.resolve_left h2, a, ha, h9, h2, rfl⟩
theorem fnd_all (l : List EvD) (p : Int × Int) : fndP (wksN l l.length) p ↔ ∃ i k, i < k ∧ PairAt l i k p := by
  rw [fnd_pairs]
  constructor
  · rintro ⟨i, k, h1, _, h3⟩; exact ⟨i, k, h1, h3⟩
  · rintro ⟨i, k, h1, h3⟩; exact ⟨i, k, h1, h3.lt, h3⟩

/-! ### in memory -/
/-- A set of numbers, in a map. -/
def SetAt (W : World) (b : Nat) (S : Int → Prop) : Prop := ∃ F, MapIs encI W b F ∧ ∀ t, F t ≠ none ↔ S t
/-- A set of pairs, in a map. -/
def FndAt (W : World) (b : Nat) (S : Int × Int → Prop) : Prop := ∃ F, MapIs encP W b F ∧ ∀ p, F p ≠ none ↔ S p
section
variable {W W' : World} {b : Nat} {S : Int → Prop} {T : Int × Int → Prop}
theorem SetAt.lt (h : SetAt W b S) : b < W.heap.size := by obtain ⟨_, h, _⟩ := h; exact h.lt
theorem SetAt.upd {F : Nat → Prop} (h : SetAt W b S) (hu : Upd F W W') (hn : ¬ F b) : SetAt W' b S := by obtain ⟨f, h1, h2⟩ := h; exact ⟨f, h1.upd hu hn, h2⟩
theorem SetAt.congr {S' : Int → Prop} (h : SetAt W b S) (e : ∀ t, S t ↔ S' t) : SetAt W b S' := by obtain ⟨f, h1, h2⟩ := h; exact ⟨f, h1, fun t => (h2 t).trans (e t)⟩
theorem SetAt.new' {n : Nat} (w : World) (hn : n = w.heap.size) : SetAt (w.alloc (.map #[] 0)) n (fun _ => False) := ⟨_, mapNew' w hn, fun _ => by simp⟩
theorem SetAt.ne_blk (h : SetAt W b S) {g : Nat} {t : TypeId} {cs : Array Value} (hg : Blk W g t cs) : g ≠ b := by obtain ⟨_, h, _⟩ := h; exact map_ne_blk h hg
theorem SetAt.add (h : SetAt W b S) (t : Int) : ∃ W', (Instr.mapUpdate 62 (.map (some b)) (.int .i64 t) (.bool true)).run Try.prog W = .ok () W' ∧ SetAt W' b (fun x => S x ∨ x = t) ∧ Upd (fun k => k = b) W W' ∧ W'.heap.size = W.heap.size := by
  obtain ⟨f, h1, h2⟩ := h
  obtain ⟨W', hr, hm, hg, hs⟩ := h1.store KI (P := Try.prog) Try.underlying62 Try.underlying3 t (.bool true)
  refine ⟨W', hr, ⟨_, hm, fun x => ?_⟩, (Upd.refl _ W).grown hg fun k hk _ => (Option.some.inj hk).symm, hs⟩
  by_cases e : x = t
  · subst e; rw [putF_same]; simp
  · rw [putF_other _ e, h2]; simp [e]
theorem FndAt.lt (h : FndAt W b T) : b < W.heap.size := by obtain ⟨_, h, _⟩ := h; exact h.lt
theorem FndAt.upd {F : Nat → Prop} (h : FndAt W b T) (hu : Upd F W W') (hn : ¬ F b) : FndAt W' b T := by obtain ⟨f, h1, h2⟩ := h; exact ⟨f, h1.upd hu hn, h2⟩
theorem FndAt.congr {T' : Int × Int → Prop} (h : FndAt W b T) (e : ∀ t, T t ↔ T' t) : FndAt W b T' := by obtain ⟨f, h1, h2⟩ := h; exact ⟨f, h1, fun t => (h2 t).trans (e t)⟩
theorem FndAt.ne_blk (h : FndAt W b T) {g : Nat} {t : TypeId} {cs : Array Value} (hg : Blk W g t cs) : g ≠ b := by obtain ⟨_, h, _⟩ := h; exact map_ne_blk h hg
theorem FndAt.add (h : FndAt W b T) (p : Int × Int) : ∃ W', (Instr.mapUpdate 57 (.map (some b)) (.agg #[.int .i64 p.1, .int .i64 p.2]) (.bool true)).run Try.prog W = .ok () W' ∧ FndAt W' b (fun x => T x ∨ x = p) ∧ Upd (fun k => k = b) W W' ∧ W'.heap.size = W.heap.size := by
  obtain ⟨f, h1, h2⟩ := h
  obtain ⟨W', hr, hm, hg, hs⟩ := h1.storeP Try.underlying57 p (.bool true)
  refine ⟨W', hr, ⟨_, hm, fun x => ?_⟩, (Upd.refl _ W).grown hg fun k hk _ => (Option.some.inj hk).symm, hs⟩
  by_cases e : x = p
  · subst e; rw [putF_same]; simp
  · rw [putF_other _ e, h2]; simp [e]
end
abbrev Tri := Nat × Nat × Nat
/-- The table of keys: each one's box, its map of readers, its map of writers. -/
structure KeyAt (B : Nat) (W : World) (mk : Nat) (f : ByteArray → Option Tri) (rd wr : ByteArray → Int → Prop) : Prop where
  map : MapIs encB W mk (fun K => (f K).map fun g => ptrV g.1)
  gone : ∀ K, f K = none → ∀ t, ¬ rd K t ∧ ¬ wr K t
  has : ∀ K g, f K = some g → B ≤ g.1 ∧ B ≤ g.2.1 ∧ B ≤ g.2.2 ∧ Blk W g.1 64 #[.map (some g.2.1), .map (some g.2.2)] ∧ SetAt W g.2.1 (rd K) ∧ SetAt W g.2.2 (wr K) ∧ g.2.1 ≠ g.2.2
  apart : ∀ K K' g g', K ≠ K' → f K = some g → f K' = some g' → g.2.1 ≠ g'.2.1 ∧ g.2.2 ≠ g'.2.2 ∧ g.2.1 ≠ g'.2.2
section
variable {B mk : Nat} {W W' : World} {f : ByteArray → Option Tri} {rd wr : ByteArray → Int → Prop}
theorem KeyAt.upd {F : Nat → Prop} (h : KeyAt B W mk f rd wr) (hu : Upd F W W') (hm : ¬ F mk) (hF : ∀ K g, f K = some g → ¬ F g.1 ∧ ¬ F g.2.1 ∧ ¬ F g.2.2) : KeyAt B W' mk f rd wr :=
  ⟨h.map.upd hu hm, h.gone, fun K g hK => by
    obtain ⟨h1, h2, h3, h4, h5, h6, h7⟩ := h.has K g hK
    obtain ⟨f1, f2, f3⟩ := hF K g hK
    exact ⟨h1, h2, h3, h4.upd hu f1, h5.upd hu f2, h6.upd hu f3, h7⟩, h.apart⟩
theorem KeyAt.alloc (h : KeyAt B W mk f rd wr) (o : Obj) : KeyAt B (W.alloc o) mk f rd wr := h.upd ((Upd.refl Nowhere W).alloc o) id fun _ _ _ => ⟨id, id, id⟩
theorem KeyAt.congr {rd' wr' : ByteArray → Int → Prop} (h : KeyAt B W mk f rd wr) (e1 : ∀ K t, rd K t ↔ rd' K t) (e2 : ∀ K t, wr K t ↔ wr' K t) : KeyAt B W mk f rd' wr' := by
  rw [show rd' = rd from funext fun K => funext fun t => propext (e1 K t).symm, show wr' = wr from funext fun K => funext fun t => propext (e2 K t).symm]; exact h
theorem KeyAt.look (h : KeyAt B W mk f rd wr) (K : ByteArray) : (Instr.lookup 56 (.map (some mk)) (.string K) false).run Try.prog W = .ok (((f K).map fun g => ptrV g.1).getD (.pointer none)) W := by
  have := h.map.look KB (P := Try.prog) Try.underlying56 Try.underlying9 (Try.zeroValue61 _) K false
  simpa using this
/-- A key that wasn't there. -/
theorem KeyAt.add (h : KeyAt B W mk f rd wr) (hB : B ≤ W.heap.size) (hmk : mk < B) {K : ByteArray} (hK : f K = none) : ∃ W4, (Instr.mapUpdate 56 (.map (some mk)) (.string K) (ptrV (W.heap.size + 1 + 1))).run Try.prog (((W.alloc (.map #[] 0)).alloc (.map #[] 0)).alloc (.cells #[.map (some W.heap.size), .map (some (W.heap.size + 1))] 64)) = .ok () W4 ∧
    KeyAt B W4 mk (fun K' => if K' = K then some (W.heap.size + 1 + 1, W.heap.size, W.heap.size + 1) else f K') rd wr ∧ Upd (fun k => k = mk) W W4 := by
  have hlt := h.map.lt
  have hu0 : Upd Nowhere W (((W.alloc (.map #[] 0)).alloc (.map #[] 0)).alloc (.cells #[.map (some W.heap.size), .map (some (W.heap.size + 1))] 64)) := (((Upd.refl Nowhere W).alloc _).alloc _).alloc _
  have h3 : MapIs encB (((W.alloc (.map #[] 0)).alloc (.map #[] 0)).alloc (.cells #[.map (some W.heap.size), .map (some (W.heap.size + 1))] 64)) mk (fun K => (f K).map fun g => ptrV g.1) := h.map.upd hu0 id
  obtain ⟨W4, hr, hm, hg, hs⟩ := h3.store KB (P := Try.prog) Try.underlying56 Try.underlying9 K (ptrV (W.heap.size + 1 + 1))
  have hu4 : Upd (fun k => k = mk) (((W.alloc (.map #[] 0)).alloc (.map #[] 0)).alloc (.cells #[.map (some W.heap.size), .map (some (W.heap.size + 1))] 64)) W4 := (Upd.refl _ _).grown hg fun k hk _ => (Option.some.inj hk).symm
  have hno := h.gone K hK
  refine ⟨W4, hr, ⟨hm.congr fun K' => ?_, fun K' hK' => ?_, fun K' g hK' => ?_, fun K1 K2 g1 g2 hne h1 h2 => ?_⟩, (hu0.mono fun _ _ h => h.elim).trans hu4 fun k _ hk => hk⟩
  · by_cases e : K' = K
    · simp [putF, e]
    · simp [putF, e]
  · by_cases e : K' = K
    · rw [if_pos e] at hK'; cases hK'
    · rw [if_neg e] at hK'
      exact h.gone K' hK'
  · by_cases e : K' = K
    · rw [if_pos e] at hK'
      cases hK'
      subst e
      refine ⟨by simp; omega, by simp; omega, by simp; omega, (Blk.new' _ _ _ (by simp)).upd hu4 (by simp; omega), ?_, ?_, by simp⟩
      · refine SetAt.upd (SetAt.congr (S := fun _ => False) ?_ fun t => ⟨False.elim, fun h => (hno t).1 h⟩) hu4 (by simp; omega)
        exact ((SetAt.new' _ rfl).upd ((Upd.refl Nowhere _).alloc _) id).upd ((Upd.refl Nowhere _).alloc _) id
      · refine SetAt.upd (SetAt.congr (S := fun _ => False) ?_ fun t => ⟨False.elim, fun h => (hno t).2 h⟩) hu4 (by simp; omega)
        exact (SetAt.new' _ (by simp)).upd ((Upd.refl Nowhere _).alloc _) id
    · rw [if_neg e] at hK'
      obtain ⟨h1, h2, h3, h4, h5, h6, h7⟩ := h.has K' g hK'
      have m0 := map_ne_blk h.map h4
      refine ⟨h1, h2, h3, (h4.upd hu0 id).upd hu4 m0, (h5.upd hu0 id).upd hu4 fun e => ?_, (h6.upd hu0 id).upd hu4 fun e => ?_, h7⟩
      · omega
      · omega
  · have old : ∀ K' g, f K' = some g → g.2.1 < W.heap.size ∧ g.2.2 < W.heap.size := fun K' g hK' => ⟨(h.has K' g hK').2.2.2.2.1.lt, (h.has K' g hK').2.2.2.2.2.1.lt⟩
    by_cases e1 : K1 = K
    · rw [if_pos e1] at h1
      cases h1
      rw [if_neg (fun e => hne (e1.trans e.symm))] at h2
      have := old K2 g2 h2
      dsimp only
      omega
    · rw [if_neg e1] at h1
      have h3 := old K1 g1 h1
      by_cases e2 : K2 = K
      · rw [if_pos e2] at h2
        cases h2
        dsimp only
        omega
      · rw [if_neg e2] at h2
        exact h.apart K1 K2 g1 g2 hne h1 h2
/-- A number among a key's readers, or writers. -/
theorem KeyAt.read (h : KeyAt B W mk f rd wr) (hmk : mk < B) {K : ByteArray} {g : Tri} (hK : f K = some g) (t : Int) : ∃ W', (Instr.mapUpdate 62 (.map (some g.2.1)) (.int .i64 t) (.bool true)).run Try.prog W = .ok () W' ∧
    KeyAt B W' mk f (fun K' x => rd K' x ∨ (K = K' ∧ t = x)) wr ∧ Upd (fun k => k = g.2.1) W W' := by
  obtain ⟨b1, b2, b3, b4, b5, b6, b7⟩ := h.has K g hK
  obtain ⟨W', hr, hm, hu, hs⟩ := b5.add t
  refine ⟨W', hr, ⟨h.map.upd hu (by omega), fun K' hK' x => ?_, fun K' g' hK' => ?_, h.apart⟩, hu⟩
  · have : K ≠ K' := fun e => by rw [← e, hK] at hK'; cases hK'
    exact ⟨fun hx => hx.elim (h.gone K' hK' x).1 fun hx => this hx.1, (h.gone K' hK' x).2⟩
  · obtain ⟨c1, c2, c3, c4, c5, c6, c7⟩ := h.has K' g' hK'
    by_cases e : K = K'
    · subst e
      rw [hK] at hK'
      cases hK'
      exact ⟨c1, c2, c3, c4.upd hu (b5.ne_blk c4), hm.congr fun x => ⟨fun hx => hx.imp_right fun e => ⟨rfl, e.symm⟩, fun hx => hx.imp_right fun e => e.2.symm⟩, c6.upd hu fun e => c7 e.symm, c7⟩
    · obtain ⟨a1, a2, a3⟩ := h.apart K K' g g' e hK hK'
      exact ⟨c1, c2, c3, c4.upd hu (b5.ne_blk c4), (c5.upd hu fun e => a1 e.symm).congr fun x => ⟨.inl, fun hx => hx.resolve_right fun hx => e hx.1⟩, c6.upd hu fun e => a3 e.symm, c7⟩
theorem KeyAt.wrote (h : KeyAt B W mk f rd wr) (hmk : mk < B) {K : ByteArray} {g : Tri} (hK : f K = some g) (t : Int) : ∃ W', (Instr.mapUpdate 62 (.map (some g.2.2)) (.int .i64 t) (.bool true)).run Try.prog W = .ok () W' ∧
    KeyAt B W' mk f rd (fun K' x => wr K' x ∨ (K = K' ∧ t = x)) ∧ Upd (fun k => k = g.2.2) W W' := by
  obtain ⟨b1, b2, b3, b4, b5, b6, b7⟩ := h.has K g hK
  obtain ⟨W', hr, hm, hu, hs⟩ := b6.add t
  refine ⟨W', hr, ⟨h.map.upd hu (by omega), fun K' hK' x => ?_, fun K' g' hK' => ?_, h.apart⟩, hu⟩
  · have : K ≠ K' := fun e => by rw [← e, hK] at hK'; cases hK'
    exact ⟨(h.gone K' hK' x).1, fun hx => hx.elim (h.gone K' hK' x).2 fun hx => this hx.1⟩
  · obtain ⟨c1, c2, c3, c4, c5, c6, c7⟩ := h.has K' g' hK'
    by_cases e : K = K'
    · subst e
      rw [hK] at hK'
      cases hK'
      exact ⟨c1, c2, c3, c4.upd hu (b6.ne_blk c4), c5.upd hu c7, hm.congr fun x => ⟨fun hx => hx.imp_right fun e => ⟨rfl, e.symm⟩, fun hx => hx.imp_right fun e => e.2.symm⟩, c7⟩
    · obtain ⟨a1, a2, a3⟩ := h.apart K K' g g' e hK hK'
      obtain ⟨_, _, a4⟩ := h.apart K' K g' g (fun h => e h.symm) hK' hK
      exact ⟨c1, c2, c3, c4.upd hu (b6.ne_blk c4), c5.upd hu a4, (c6.upd hu fun e => a2 e.symm).congr fun x => ⟨.inl, fun hx => hx.resolve_right fun hx => e hx.1⟩, c7⟩
end
end Go.Proofs.Ytddknmgajacofaa
