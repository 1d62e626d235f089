/-
  Who is on a ring: the program's walk over a graph, on plain states; it finds one if and only if there is one (plain Lean, no program in sight).
-/
import Derived.Test.YtddknmgajacofaaTeA
namespace Go.Proofs.Ytddknmgajacofaa

/-- The walk's state: who was come to, in their order; numbers and low numbers; who is on the stack; the stack; who was found. -/
structure Tj where
  vis : List Int
  ord : Int → Nat
  low : Int → Nat
  on : Int → Bool
  stk : List Int
  fnd : Int → Bool
def updN {β : Type} (f : Int → β) (n : Int) (v : β) : Int → β := fun x => if x = n then v else f x
theorem updN_same {β : Type} (f : Int → β) (n : Int) (v : β) : updN f n v n = v := by simp [updN]
theorem updN_other {β : Type} (f : Int → β) {n x : Int} (v : β) (h : x ≠ n) : updN f n v x = f x := by simp [updN, h]
def enterT (s : Tj) (n : Int) : Tj := ⟨s.vis ++ [n], updN s.ord n (s.vis.length + 1), updN s.low n (s.vis.length + 1), updN s.on n true, s.stk ++ [n], s.fnd⟩
def partT (s : Tj) (n : Int) : List Int := s.stk.drop (s.stk.idxOf n)
/-- So many of the part have been let go. -/
def popT (s : Tj) (P : List Int) (j : Nat) : Tj :=
  { s with on := fun m => if m ∈ P.take j then false else s.on m, fnd := fun m => s.fnd m || (decide (1 < P.length) && decide (m ∈ P.take j)) }
def leaveT (s : Tj) (n : Int) : Tj := if s.low n = s.ord n then { popT s (partT s n) (partT s n).length with stk := s.stk.take (s.stk.idxOf n) } else s
def edgeT (rec : Int → Tj → Tj) (n : Int) (s : Tj) (m : Int) : Tj :=
  if m = n then { s with fnd := updN s.fnd n true }
  else if s.ord m = 0 then { rec m s with low := updN (rec m s).low n (min ((rec m s).low n) ((rec m s).low m)) }
  else if s.on m = true then { s with low := updN s.low n (min (s.low n) (s.ord m)) } else s
def walkT (next : Int → List Int) : Nat → Int → Tj → Tj
  | 0, _, s => s
  | k + 1, n, s => leaveT ((next n).foldl (edgeT (walkT next k) n) (enterT s n)) n

structure InvT (s : Tj) : Prop where
  nd : s.vis.Nodup
  iv : ∀ x, s.ord x ≠ 0 ↔ x ∈ s.vis
  le : ∀ x, s.ord x ≤ s.vis.length
  onk : ∀ x, s.on x = true ↔ x ∈ s.stk
  up : s.stk.Pairwise fun x y => s.ord x < s.ord y
  sv : ∀ x ∈ s.stk, s.ord x ≠ 0
/-- What a walk does. -/
structure Went (s : Tj) (n : Int) (t : Tj) : Prop where
  inv : InvT t
  keep : ∀ x, s.ord x ≠ 0 → t.ord x = s.ord x ∧ t.low x = s.low x
  stk : ∃ X, t.stk = s.stk ++ X ∧ (t.low n = t.ord n → X = []) ∧ (t.low n ≠ t.ord n → X ≠ [])
  fnd : ∀ x, s.fnd x = true → t.fnd x = true
  here : t.ord n = s.vis.length + 1
  lo : t.low n ≤ t.ord n
  bd : ∀ r, (∀ x ∈ s.stk, r ≤ s.ord x) → r ≤ s.vis.length + 1 → r ≤ t.low n
  grow : ∃ V, t.vis = s.vis ++ n :: V
/-- Among the edges of p. -/
structure InT (s : Tj) (p : Int) (t : Tj) : Prop where
  inv : InvT t
  keep : ∀ x, s.ord x ≠ 0 → t.ord x = s.ord x ∧ t.low x = s.low x
  stk : ∃ Y, t.stk = s.stk ++ p :: Y
  fnd : ∀ x, s.fnd x = true → t.fnd x = true
  here : t.ord p = s.vis.length + 1
  lo : t.low p ≤ t.ord p
  bd : ∀ r, (∀ x ∈ s.stk, r ≤ s.ord x) → r ≤ s.vis.length + 1 → r ≤ t.low p
  grow : ∃ V, t.vis = s.vis ++ p :: V
/-- How many of some numbers were not come to. -/
def unvT (nodes : List Int) (s : Tj) : Nat := nodes.countP fun x => decide (x ∉ s.vis)

section
variable {next : Int → List Int} {nodes : List Int} {s t : Tj} {n p m : Int} {k : Nat}
theorem InvT.new (h : InvT s) (h0 : s.ord n = 0) : n ∉ s.vis := fun hm => (h.iv n).2 hm h0
theorem InvT.off (h : InvT s) (h0 : s.ord n = 0) : n ∉ s.stk := fun hm => h.sv n hm h0
theorem InvT.stk_nodup (h : InvT s) : s.stk.Nodup := h.up.imp fun {a b} hab e => by subst e; exact Nat.lt_irrefl _ hab
theorem enterT_in (h : InvT s) (h0 : s.ord n = 0) : InT s n (enterT s n) := by
  have hv := h.new h0
  have ho := h.off h0
  refine ⟨⟨?_, fun x => ?_, fun x => ?_, fun x => ?_, ?_, fun x hx => ?_⟩, fun x hx => ?_, ⟨[], rfl⟩, fun x hx => hx, ?_, ?_, fun r h1 h2 => ?_, ⟨[], rfl⟩⟩
  · rw [show (enterT s n).vis = s.vis ++ [n] from rfl, List.nodup_append]
    exact ⟨h.nd, by simp, fun a ha b hb e => by rw [List.mem_singleton] at hb; subst hb; exact hv (e ▸ ha)⟩
  · simp only [enterT, updN, List.mem_append, List.mem_singleton]
    by_cases e : x = n
    · simp [e]
    · rw [if_neg e, h.iv]; simp [e]
  · simp only [enterT, updN, List.length_append, List.length_singleton]
    have := h.le x
    split <;> omega
  · simp only [enterT, updN, List.mem_append, List.mem_singleton]
    by_cases e : x = n
    · simp [e]
    · rw [if_neg e, h.onk]; simp [e]
  · simp only [enterT, List.pairwise_append]
    refine ⟨h.up.imp_of_mem fun {a b} ha hb hab => ?_, by simp, fun a ha b hb => ?_⟩
    · rw [updN_other _ _ (fun e : a = n => ho (e ▸ ha)), updN_other _ _ (fun e : b = n => ho (e ▸ hb))]; exact hab
    · rw [List.mem_singleton] at hb
      subst hb
      rw [updN_other _ _ (fun e : a = b => ho (e ▸ ha)), updN_same]
      have := h.le a
      omega
  · simp only [enterT, List.mem_append, List.mem_singleton] at hx ⊢
    rcases hx with hx | rfl
    · rw [updN_other _ _ (fun e : x = n => ho (e ▸ hx))]; exact h.sv x hx
    · rw [updN_same]; omega
  · have : x ≠ n := fun e => hx (e ▸ h0)
    simp [enterT, updN, this]
  · simp [enterT, updN]
  · simp [enterT, updN]
  · simp only [enterT, updN_same]; exact h2
theorem unv_lt (hn : n ∈ nodes) (hv : n ∉ s.vis) {V : List Int} (hg : t.vis = s.vis ++ n :: V) : unvT nodes t < unvT nodes s := by
  refine countP_lt (a := n) (fun x hx => ?_) hn (decide_eq_true hv) (decide_eq_false fun h => h (by rw [hg]; simp))
  have := of_decide_eq_true hx
  exact decide_eq_true fun h => this (by rw [hg]; simp [h])
theorem unv_le (h : ∀ x ∈ s.vis, x ∈ t.vis) : unvT nodes t ≤ unvT nodes s :=
  List.countP_mono_left fun x _ hx => decide_eq_true fun hm => (of_decide_eq_true hx) (h x hm)
/-- One edge. -/
theorem InT.edge (hs : InvT s) (h0 : s.ord p = 0) (h : InT s p t) (hrec : t.ord m = 0 → Went t m (walkT next k m t)) : InT s p (edgeT (walkT next k) p t m) := by
  unfold edgeT
  by_cases e : m = p
  · rw [if_pos e]
    refine ⟨⟨h.inv.nd, h.inv.iv, h.inv.le, h.inv.onk, h.inv.up, h.inv.sv⟩, h.keep, h.stk, fun x hx => ?_, h.here, h.lo, h.bd, h.grow⟩
    show updN t.fnd p true x = true
    unfold updN
    split
    · rfl
    · exact h.fnd x hx
  · rw [if_neg e]
    have hpo : t.ord p ≠ 0 := by rw [h.here]; omega
    by_cases hm : t.ord m = 0
    · rw [if_pos hm]
      have hw := hrec hm
      generalize walkT next k m t = u at *
      obtain ⟨V, hV⟩ := h.grow
      obtain ⟨V', hV'⟩ := hw.grow
      obtain ⟨Y, hY⟩ := h.stk
      obtain ⟨X, hX, _, _⟩ := hw.stk
      have hkp := hw.keep p hpo
      have hmin : ∀ r, (∀ x ∈ s.stk, r ≤ s.ord x) → r ≤ s.vis.length + 1 → r ≤ u.low m := fun r h1 h2 => by
        refine hw.bd r (fun x hx => ?_) (by rw [hV]; simp; omega)
        rw [hY] at hx
        have hup := h.inv.up
        rw [hY, List.pairwise_append] at hup
        rcases List.mem_append.1 hx with hx | hx
        · rw [(h.keep x (hs.sv x hx)).1]; exact h1 x hx
        · rcases List.mem_cons.1 hx with rfl | hx
          · rw [h.here]; exact h2
          · have := (List.pairwise_cons.1 hup.2.1).1 x hx
            rw [h.here] at this
            omega
      refine ⟨⟨hw.inv.nd, hw.inv.iv, hw.inv.le, hw.inv.onk, hw.inv.up, hw.inv.sv⟩, fun x hx => ?_, ⟨Y ++ X, by rw [show _ = u.stk from rfl, hX, hY]; simp⟩, fun x hx => hw.fnd x (h.fnd x hx), ?_, ?_, fun r h1 h2 => ?_, ⟨V ++ m :: V', by rw [show _ = u.vis from rfl, hV', hV]; simp⟩⟩
      · have hxp : x ≠ p := fun e => hx (e ▸ h0)
        have h1 := h.keep x hx
        have h2 := hw.keep x (by rw [h1.1]; exact hx)
        exact ⟨h2.1.trans h1.1, (updN_other u.low _ hxp).trans (h2.2.trans h1.2)⟩
      · exact hkp.1.trans h.here
      · show updN u.low p _ p ≤ u.ord p
        rw [updN_same, hkp.1, hkp.2]
        have := h.lo
        omega
      · show r ≤ updN u.low p _ p
        rw [updN_same, hkp.2]
        have := h.bd r h1 h2
        have := hmin r h1 h2
        omega
    · rw [if_neg hm]
      by_cases ho : t.on m = true
      · rw [if_pos ho]
        refine ⟨⟨h.inv.nd, h.inv.iv, h.inv.le, h.inv.onk, h.inv.up, h.inv.sv⟩, fun x hx => ?_, h.stk, h.fnd, h.here, ?_, fun r h1 h2 => ?_, h.grow⟩
        · have hxp : x ≠ p := fun e => hx (e ▸ h0)
          exact ⟨(h.keep x hx).1, (updN_other t.low _ hxp).trans (h.keep x hx).2⟩
        · show updN t.low p _ p ≤ t.ord p
          rw [updN_same]
          have := h.lo
          omega
        · show r ≤ updN t.low p _ p
          rw [updN_same]
          have h3 := h.bd r h1 h2
          have h4 : r ≤ t.ord m := by
            obtain ⟨Y, hY⟩ := h.stk
            have hx := (h.inv.onk m).1 ho
            have hup := h.inv.up
            rw [hY, List.pairwise_append] at hup
            rw [hY] at hx
            rcases List.mem_append.1 hx with hx | hx
            · rw [(h.keep m (hs.sv m hx)).1]; exact h1 m hx
            · rcases List.mem_cons.1 hx with e' | hx
              · exact absurd e' e
              · have := (List.pairwise_cons.1 hup.2.1).1 m hx
                rw [h.here] at this
                omega
          omega
      · rw [if_neg ho]; exact h
theorem InT.index (hs : InvT s) (h0 : s.ord p = 0) (h : InT s p t) : ∃ Y, t.stk = s.stk ++ p :: Y ∧ t.stk.idxOf p = s.stk.length ∧ partT t p = p :: Y ∧ t.stk.take (t.stk.idxOf p) = s.stk := by
  obtain ⟨Y, hY⟩ := h.stk
  have ho := hs.off h0
  have hi : t.stk.idxOf p = s.stk.length := by
    rw [hY, List.idxOf_append, if_neg ho]
    simp
  refine ⟨Y, hY, hi, ?_, ?_⟩
  · unfold partT; rw [hi, hY]; simp
  · rw [hi, hY]; simp
/-- The end. -/
theorem InT.leave (hs : InvT s) (h0 : s.ord p = 0) (h : InT s p t) : Went s p (leaveT t p) := by
  obtain ⟨Y, hY, hi, hp, ht⟩ := h.index hs h0
  unfold leaveT
  by_cases e : t.low p = t.ord p
  · rw [if_pos e, hp, ht]
    have hnd := h.inv.stk_nodup
    rw [hY, List.nodup_append] at hnd
    have hup := h.inv.up
    rw [hY, List.pairwise_append] at hup
    have hfull : (p :: Y).take (p :: Y).length = p :: Y := List.take_length
    refine ⟨⟨h.inv.nd, h.inv.iv, h.inv.le, fun x => ?_, hup.1, fun x hx => h.inv.sv x (by rw [hY]; exact List.mem_append_left _ hx)⟩, h.keep, ⟨[], by simp, fun _ => rfl, fun h1 => absurd e h1⟩, fun x hx => ?_, h.here, h.lo, h.bd, h.grow⟩
    · simp only [popT, hfull]
      by_cases hx : x ∈ p :: Y
      · rw [if_pos hx]
        simp only [Bool.false_eq_true, false_iff]
        intro h1
        exact hnd.2.2 x h1 x hx rfl
      · rw [if_neg hx, h.inv.onk, hY, List.mem_append]
        exact ⟨fun h1 => h1.resolve_right hx, .inl⟩
    · simp only [popT, h.fnd x hx, Bool.true_or]
  · rw [if_neg e]
    exact ⟨h.inv, h.keep, ⟨p :: Y, hY, fun h1 => absurd h1 e, fun _ => by simp⟩, h.fnd, h.here, h.lo, h.bd, h.grow⟩
/-- Enough of fuel: all that a walk does. -/
theorem walk_went (hnx : ∀ a b, b ∈ next a → b ∈ nodes) : ∀ (k : Nat) (n : Int) (s : Tj), InvT s → s.ord n = 0 → n ∈ nodes → unvT nodes s ≤ k → Went s n (walkT next k n s) := by
  intro k
  induction k with
  | zero =>
    intro n s hs h0 hn hu
    have : unvT nodes s < unvT nodes s := Nat.lt_of_le_of_lt hu (by
      refine List.countP_pos_iff.2 ⟨n, hn, decide_eq_true (hs.new h0)⟩)
    omega
  | succ k ih =>
    intro n s hs h0 hn hu
    have key : ∀ (D : List Int) (t : Tj), (∀ b ∈ D, b ∈ nodes) → InT s n t → InT s n (D.foldl (edgeT (walkT next k) n) t) := by
      intro D
      induction D with
      | nil => intro t _ h; exact h
      | cons m D ihD =>
        intro t hD h
        refine ihD _ (fun b hb => hD b (List.mem_cons_of_mem _ hb)) (h.edge hs h0 fun hm => ih m t h.inv hm (hD m (List.mem_cons_self ..)) ?_)
        obtain ⟨V, hV⟩ := h.grow
        have := unv_lt (nodes := nodes) hn (hs.new h0) hV
        omega
    exact (key (next n) _ (fun b hb => hnx n b hb) (enterT_in hs h0)).leave hs h0
/-- The state among the edges. -/
theorem walkT_in (hnx : ∀ a b, b ∈ next a → b ∈ nodes) (hs : InvT s) (h0 : s.ord n = 0) (hn : n ∈ nodes) (hu : unvT nodes s ≤ k + 1) : ∀ D : List Int, (∀ b ∈ D, b ∈ nodes) → InT s n (D.foldl (edgeT (walkT next k) n) (enterT s n)) ∧ unvT nodes (D.foldl (edgeT (walkT next k) n) (enterT s n)) ≤ k := by
  have hlt : ∀ t, InT s n t → unvT nodes t ≤ k := fun t h => by
    obtain ⟨V, hV⟩ := h.grow
    have := unv_lt (nodes := nodes) hn (hs.new h0) hV
    omega
  have key : ∀ (D : List Int) (t : Tj), (∀ b ∈ D, b ∈ nodes) → InT s n t → InT s n (D.foldl (edgeT (walkT next k) n) t) := by
    intro D
    induction D with
    | nil => intro t _ h; exact h
    | cons m D ihD =>
      intro t hD h
      exact ihD _ (fun b hb => hD b (List.mem_cons_of_mem _ hb)) (h.edge hs h0 fun hm => walk_went hnx k m t h.inv hm (hD m (List.mem_cons_self ..)) (hlt t h))
  exact fun D hD => ⟨key D _ hD (enterT_in hs h0), hlt _ (key D _ hD (enterT_in hs h0))⟩
end

/-! ### no ring was found as yet, and none is among those that were let go -/
inductive TopoT (next : Int → List Int) : List Int → Prop
  | nil : TopoT next []
  | snoc {L : List Int} {x : Int} : TopoT next L → x ∉ L → (∀ y ∈ next x, y ∈ L) → TopoT next (L ++ [x])
structure CleanT (next : Int → List Int) (E : Ed) (s : Tj) : Prop where
  fn : ∀ x, s.fnd x = false
  path : s.stk.Pairwise (Rch E)
  done : ∃ L, TopoT next L ∧ ∀ x, x ∈ L ↔ (s.ord x ≠ 0 ∧ x ∉ s.stk)
section
variable {next : Int → List Int} {nodes : List Int} {E : Ed} {s t : Tj} {n p m : Int} {k : Nat}
theorem TopoT.closed (hN : ∀ a b, b ∈ next a ↔ (a, b) ∈ E) {L : List Int} (h : TopoT next L) : ∀ {x y : Int}, x ∈ L → Rch E x y → y ∈ L := by
  have h1 : ∀ x y, x ∈ L → (x, y) ∈ E → y ∈ L := by
    induction h with
    | nil => intro x y hx; cases hx
    | snoc _ _ h3 ih =>
      intro x y hx he
      rcases List.mem_append.1 hx with hx | hx
      · exact List.mem_append_left _ (ih x y hx he)
      · rw [List.mem_singleton] at hx
        subst hx
        exact List.mem_append_left _ (h3 y ((hN _ _).2 he))
  intro x y hx hr
  induction hr with
  | one e => exact h1 _ _ hx e
  | snoc _ e ih => exact h1 _ _ ih e
theorem TopoT.no_ring (hN : ∀ a b, b ∈ next a ↔ (a, b) ∈ E) {L : List Int} (h : TopoT next L) : ∀ x ∈ L, ¬ Rch E x x := by
  induction h with
  | nil => intro x hx; cases hx
  | snoc h1 h2 h3 ih =>
    intro x hx hr
    rcases List.mem_append.1 hx with hx | hx
    · exact ih x hx hr
    · rw [List.mem_singleton] at hx
      subst hx
      obtain ⟨d, hd, hdr⟩ := hr.first
      have hdL := h3 d ((hN _ _).2 hd)
      rcases hdr with rfl | hdr
      · exact h2 hdL
      · exact h2 (h1.closed hN hdL hdr)
/-- The two ways in which a walk may stand among the edges of p. -/
def ModeT (next : Int → List Int) (E : Ed) (s : Tj) (p : Int) (D : List Int) (t : Tj) : Prop :=
  (CleanT next E t ∧ t.stk = s.stk ++ [p] ∧ t.low p = t.ord p ∧ ∀ m ∈ D, t.ord m ≠ 0 ∧ m ∉ t.stk) ∨
  (Cyc E ∧ ((∃ x, t.fnd x = true) ∨ (∃ y Y, t.stk = s.stk ++ p :: y :: Y) ∨ t.low p < t.ord p))
theorem enterT_clean (hs : InvT s) (h0 : s.ord n = 0) (h : CleanT next E s) (hp : ∀ x ∈ s.stk, Rch E x n) : CleanT next E (enterT s n) := by
  have ho := hs.off h0
  obtain ⟨L, hL, hd⟩ := h.done
  refine ⟨h.fn, ?_, L, hL, fun x => ?_⟩
  · simp only [enterT, List.pairwise_append]
    exact ⟨h.path, by simp, fun a ha b hb => by rw [List.mem_singleton] at hb; subst hb; exact hp a ha⟩
  · rw [hd]
    simp only [enterT, List.mem_append, List.mem_singleton]
    by_cases e : x = n
    · subst e; simp [h0]
    · rw [updN_other _ _ e]; simp [e]
theorem edge_mode (_ : ∀ a b, b ∈ next a ↔ (a, b) ∈ E) (_ : InvT s) (h0 : s.ord p = 0) (hi : InT s p t) {D : List Int} (hm : (p, m) ∈ E) (hrec : t.ord m = 0 → Went t m (walkT next k m t))
    (hcl : t.ord m = 0 → CleanT next E t → (∀ x ∈ t.stk, Rch E x m) → (CleanT next E (walkT next k m t) ∧ (walkT next k m t).stk = t.stk ∧ (walkT next k m t).low m = (walkT next k m t).ord m) ∨ (Cyc E ∧ ((∃ x, (walkT next k m t).fnd x = true) ∨ (walkT next k m t).low m < (walkT next k m t).ord m)))
    (h : ModeT next E s p D t) : ModeT next E s p (D ++ [m]) (edgeT (walkT next k) p t m) := by
  have hpo : t.ord p ≠ 0 := by rw [hi.here]; omega
  unfold edgeT
  by_cases e : m = p
  · rw [if_pos e]
    subst e
    exact .inr ⟨⟨m, .one hm⟩, .inl ⟨m, updN_same _ _ _⟩⟩
  · rw [if_neg e]
    by_cases hm0 : t.ord m = 0
    · rw [if_pos hm0]
      have hw := hrec hm0
      have hc := hcl hm0
      generalize walkT next k m t = u at *
      have hkp := hw.keep p hpo
      rcases h with ⟨h1, h2, h3, h4⟩ | ⟨h1, h2⟩
      · have hpm : ∀ x ∈ t.stk, Rch E x m := fun x hx => by
          rw [h2] at hx
          rcases List.mem_append.1 hx with hx | hx
          · have := h1.path
            rw [h2, List.pairwise_append] at this
            exact .snoc (this.2.2 x hx p (by simp)) hm
          · rw [List.mem_singleton] at hx
            subst hx
            exact .one hm
        rcases hc h1 hpm with ⟨c1, c2, c3⟩ | ⟨c1, c2⟩
        · refine .inl ⟨⟨c1.fn, c1.path, c1.done⟩, by rw [show _ = u.stk from rfl, c2, h2], ?_, fun x hx => ?_⟩
          · show updN u.low p _ p = u.ord p
            rw [updN_same, hkp.1, hkp.2, c3, hw.here, h3]
            have := hi.inv.le p
            omega
          · show u.ord x ≠ 0 ∧ x ∉ u.stk
            rw [c2]
            rcases List.mem_append.1 hx with hx | hx
            · obtain ⟨h5, h6⟩ := h4 x hx
              exact ⟨by rw [(hw.keep x h5).1]; exact h5, h6⟩
            · rw [List.mem_singleton] at hx
              subst hx
              exact ⟨by rw [hw.here]; omega, hi.inv.off hm0⟩
        · refine .inr ⟨c1, ?_⟩
          rcases c2 with c2 | c2
          · exact .inl c2
          · obtain ⟨X, hX, _, hX2⟩ := hw.stk
            refine .inr (.inl ?_)
            have : X ≠ [] := hX2 (by omega)
            obtain ⟨y, Y, rfl⟩ := List.exists_cons_of_ne_nil this
            exact ⟨y, Y, by rw [show _ = u.stk from rfl, hX, h2]; simp⟩
      · refine .inr ⟨h1, ?_⟩
        rcases h2 with ⟨x, hx⟩ | ⟨y, Y, hY⟩ | h2
        · exact .inl ⟨x, hw.fnd x hx⟩
        · obtain ⟨X, hX, _, _⟩ := hw.stk
          exact .inr (.inl ⟨y, Y ++ X, by rw [show _ = u.stk from rfl, hX, hY]; simp⟩)
        · refine .inr (.inr ?_)
          show updN u.low p _ p < u.ord p
          rw [updN_same, hkp.1, hkp.2]
          omega
    · rw [if_neg hm0]
      by_cases ho : t.on m = true
      · rw [if_pos ho]
        rcases h with ⟨h1, h2, h3, h4⟩ | ⟨h1, h2⟩
        · have hx := (hi.inv.onk m).1 ho
          rw [h2] at hx
          have hx : m ∈ s.stk := (List.mem_append.1 hx).resolve_right fun h => e (List.mem_singleton.1 h)
          have hp1 := h1.path
          have hup := hi.inv.up
          rw [h2, List.pairwise_append] at hp1 hup
          refine .inr ⟨⟨p, .trans (.one hm) (hp1.2.2 m hx p (by simp))⟩, .inr (.inr ?_)⟩
          show updN t.low p _ p < t.ord p
          rw [updN_same]
          have := hup.2.2 m hx p (by simp)
          omega
        · refine .inr ⟨h1, ?_⟩
          rcases h2 with h2 | h2 | h2
          · exact .inl h2
          · exact .inr (.inl h2)
          · refine .inr (.inr ?_)
            show updN t.low p _ p < t.ord p
            rw [updN_same]
            omega
      · rw [if_neg ho]
        rcases h with ⟨h1, h2, h3, h4⟩ | h
        · refine .inl ⟨h1, h2, h3, fun x hx => ?_⟩
          rcases List.mem_append.1 hx with hx | hx
          · exact h4 x hx
          · rw [List.mem_singleton] at hx
            subst hx
            exact ⟨hm0, fun h => ho ((hi.inv.onk x).2 h)⟩
        · exact .inr h
theorem leave_mode (hs : InvT s) (h0 : s.ord p = 0) (hi : InT s p t) {D : List Int} (hD : ∀ y ∈ next p, y ∈ D) (h : ModeT next E s p D t) :
    (CleanT next E (leaveT t p) ∧ (leaveT t p).stk = s.stk ∧ (leaveT t p).low p = (leaveT t p).ord p) ∨ (Cyc E ∧ ((∃ x, (leaveT t p).fnd x = true) ∨ (leaveT t p).low p < (leaveT t p).ord p)) := by
  obtain ⟨Y, hY, hix, hpt, htk⟩ := hi.index hs h0
  unfold leaveT
  rcases h with ⟨h1, h2, h3, h4⟩ | ⟨h1, h2⟩
  · rw [if_pos h3, hpt, htk]
    have hY0 : Y = [] := by rw [hY] at h2; simpa using h2
    subst hY0
    obtain ⟨L, hL, hd⟩ := h1.done
    have hp1 := h1.path
    rw [h2, List.pairwise_append] at hp1
    have hpL : p ∉ L := fun h => ((hd p).1 h).2 (by rw [h2]; simp)
    refine .inl ⟨⟨fun x => ?_, hp1.1, L ++ [p], .snoc hL hpL fun y hy => (hd y).2 (h4 y (hD y hy)), fun x => ?_⟩, rfl, h3⟩
    · simp [popT, h1.fn x]
    · show x ∈ L ++ [p] ↔ t.ord x ≠ 0 ∧ x ∉ s.stk
      rw [List.mem_append, hd, h2, List.mem_append, List.mem_singleton]
      by_cases e : x = p
      · subst e
        have : t.ord x ≠ 0 := by rw [hi.here]; omega
        simp [this, hs.off h0]
      · simp [e]
  · by_cases e : t.low p = t.ord p
    · rw [if_pos e, hpt, htk]
      refine .inr ⟨h1, .inl ?_⟩
      rcases h2 with ⟨x, hx⟩ | ⟨y, Y', hY'⟩ | h2
      · exact ⟨x, by simp [popT, hx]⟩
      · rw [hY] at hY'
        have : Y = y :: Y' := by simpa using hY'
        subst this
        exact ⟨p, by simp [popT]⟩
      · omega
    · rw [if_neg e]
      refine .inr ⟨h1, ?_⟩
      rcases h2 with h2 | ⟨y, Y', hY'⟩ | h2
      · exact .inl h2
      · have := hi.lo
        exact .inr (by omega)
      · exact .inr h2
theorem walk_clean (hN : ∀ a b, b ∈ next a ↔ (a, b) ∈ E) (hnx : ∀ a b, b ∈ next a → b ∈ nodes) : ∀ (k : Nat) (n : Int) (s : Tj), InvT s → s.ord n = 0 → n ∈ nodes → unvT nodes s ≤ k → CleanT next E s → (∀ x ∈ s.stk, Rch E x n) →
    (CleanT next E (walkT next k n s) ∧ (walkT next k n s).stk = s.stk ∧ (walkT next k n s).low n = (walkT next k n s).ord n) ∨ (Cyc E ∧ ((∃ x, (walkT next k n s).fnd x = true) ∨ (walkT next k n s).low n < (walkT next k n s).ord n)) := by
  intro k
  induction k with
  | zero =>
    intro n s hs h0 hn hu
    have : 0 < unvT nodes s := List.countP_pos_iff.2 ⟨n, hn, decide_eq_true (hs.new h0)⟩
    omega
  | succ k ih =>
    intro n s hs h0 hn hu hc hp
    have hlt : ∀ t, InT s n t → unvT nodes t ≤ k := fun t h => by
      obtain ⟨V, hV⟩ := h.grow
      have := unv_lt (nodes := nodes) hn (hs.new h0) hV
      omega
    have key : ∀ (D : List Int) (D0 : List Int) (t : Tj), (∀ b ∈ D, b ∈ next n) → InT s n t → ModeT next E s n D0 t → InT s n (D.foldl (edgeT (walkT next k) n) t) ∧ ModeT next E s n (D0 ++ D) (D.foldl (edgeT (walkT next k) n) t) := by
      intro D
      induction D with
      | nil => intro D0 t _ h hm; exact ⟨h, by rw [List.append_nil]; exact hm⟩
      | cons m D ihD =>
        intro D0 t hD h hm
        have hmx := hD m (List.mem_cons_self ..)
        have hrec : t.ord m = 0 → Went t m (walkT next k m t) := fun hm0 => walk_went hnx k m t h.inv hm0 (hnx n m hmx) (hlt t h)
        have := ihD (D0 ++ [m]) _ (fun b hb => hD b (List.mem_cons_of_mem _ hb)) (h.edge hs h0 hrec) (edge_mode hN hs h0 h ((hN _ _).1 hmx) hrec (fun hm0 hcl hpl => ih m t h.inv hm0 (hnx n m hmx) (hlt t h) hcl hpl) hm)
        rw [List.append_assoc] at this
        exact this
    have h2 := key (next n) [] (enterT s n) (fun _ h => h) (enterT_in hs h0) (.inl ⟨enterT_clean hs h0 hc hp, rfl, by simp [enterT, updN], fun _ h => by cases h⟩)
    rw [List.nil_append] at h2
    exact leave_mode hs h0 h2.1 (fun _ h => h) h2.2
/-- Between the roots. -/
structure RootT (next : Int → List Int) (E : Ed) (s : Tj) : Prop where
  inv : InvT s
  stk : s.stk = []
  mode : CleanT next E s ∨ (Cyc E ∧ ∃ x, s.fnd x = true)
theorem root_start (next : Int → List Int) (E : Ed) : RootT next E ⟨[], fun _ => 0, fun _ => 0, fun _ => false, [], fun _ => false⟩ :=
  ⟨⟨List.nodup_nil, by simp, by simp, by simp, List.Pairwise.nil, by simp⟩, rfl, .inl ⟨fun _ => rfl, List.Pairwise.nil, [], .nil, by simp⟩⟩
theorem RootT.step (hN : ∀ a b, b ∈ next a ↔ (a, b) ∈ E) (hnx : ∀ a b, b ∈ next a → b ∈ nodes) (h : RootT next E s) (h0 : s.ord n = 0) (hn : n ∈ nodes) (hu : unvT nodes s ≤ k) : RootT next E (walkT next k n s) ∧ ∀ x, s.ord x ≠ 0 ∨ x = n → (walkT next k n s).ord x ≠ 0 := by
  have hw := walk_went hnx k n s h.inv h0 hn hu
  have hc := walk_clean hN hnx k n s h.inv h0 hn hu
  generalize walkT next k n s = u at *
  obtain ⟨X, hX, hX1, hX2⟩ := hw.stk
  have hlow : u.low n = u.ord n := by
    have h1 := hw.lo
    have h2 := hw.bd (s.vis.length + 1) (fun x hx => by rw [h.stk] at hx; cases hx) (Nat.le_refl _)
    rw [hw.here] at h1 ⊢
    omega
  refine ⟨⟨hw.inv, by rw [hX, h.stk, hX1 hlow]; rfl, ?_⟩, fun x hx => ?_⟩
  · rcases h.mode with h1 | ⟨h1, x, hx⟩
    · rcases hc h1 (fun x hx => by rw [h.stk] at hx; cases hx) with ⟨c1, _⟩ | ⟨c1, c2 | c2⟩
      · exact .inl c1
      · exact .inr ⟨c1, c2⟩
      · omega
    · exact .inr ⟨h1, x, hw.fnd x hx⟩
  · rcases hx with hx | rfl
    · rw [(hw.keep x hx).1]; exact hx
    · rw [hw.here]; omega
theorem RootT.tells (hN : ∀ a b, b ∈ next a ↔ (a, b) ∈ E) (h : RootT next E s) (hall : ∀ a b, (a, b) ∈ E → s.ord a ≠ 0) : (∃ x, s.fnd x = true) ↔ Cyc E := by
  rcases h.mode with h1 | ⟨h1, h2⟩
  · constructor
    · rintro ⟨x, hx⟩
      rw [h1.fn x] at hx; cases hx
    · rintro ⟨n, hn⟩
      obtain ⟨L, hL, hd⟩ := h1.done
      obtain ⟨d, hd1, _⟩ := hn.first
      exact absurd hn (hL.no_ring hN n ((hd n).2 ⟨hall n d hd1, by rw [h.stk]; simp⟩))
  · exact ⟨fun _ => h1, fun _ => h2⟩
end
end Go.Proofs.Ytddknmgajacofaa
