/-
  The walk over a graph, in memory: its boxes and maps, and what each of its steps does to them.
-/
import Derived.Test.YtddknmgajacofaaTeB
import Derived.Test.YtddknmgajacofaaTeC
namespace Go.Proofs.Ytddknmgajacofaa
open Go Go.RowKit Go.MapKept

/-- How many keys a map has. -/
theorem MapIs.len {α : Type} [DecidableEq α] {enc : α → Value} {w : World} {b : Nat} {f : α → Option Value} (hinj : ∀ {a c}, enc a = enc c → a = c) (h : MapIs enc w b f) {ks : List α} (hn : ks.Nodup) (hk : ∀ a, a ∈ ks ↔ f a ≠ none) {P : Program} {t kt et : TypeId} (ht : P.underlying t = some (.map kt et)) (ty : TypeId) :
    (Builtin.len_ #[t] ty #[.map (some b)]).run P w = .ok (.int .i64 (ks.length : Nat)) w := by
  obtain ⟨es, ck, h1, h2, h3, h4⟩ := h
  have hlen : es.size = ks.length := by
    have hnd : (es.toList.map (·.key)).Nodup := h2.2.2
    have h5 : (ks.map enc).Nodup := by
      refine List.pairwise_map.2 (hn.imp fun {a c} hac e => hac (hinj e))
    have h6 : ∀ v, v ∈ es.toList.map (·.key) ↔ v ∈ ks.map enc := fun v => by
      rw [List.mem_map, List.mem_map]
      constructor
      · rintro ⟨e, he, rfl⟩
        obtain ⟨a, ha⟩ := h3 e he
        exact ⟨a, (hk a).2 (by rw [(h4 a e.val).2 ⟨e, he, ha, rfl⟩]; simp), ha.symm⟩
      · rintro ⟨a, ha, rfl⟩
        have := (hk a).1 ha
        cases hf : f a with
        | none => exact absurd hf this
        | some v =>
          obtain ⟨e, he, e1, _⟩ := (h4 a v).1 hf
          exact ⟨e, he, e1⟩
    have hp : (es.toList.map (·.key)).Perm (ks.map enc) := (List.perm_ext_iff_of_nodup hnd h5).2 h6
    have := hp.length_eq
    simpa using this
  rw [show (Builtin.len_ #[t] ty #[.map (some b)]).run P w = .ok (goInt es.size) w by simp [Builtin.len_, run_underlying ht, MapKept.run_getObj_map h1, Result.andThen], hlen]
  rfl

structure TjBx where
  bo : Nat
  bl : Nat
  bs : Nat
  bn : Nat
  bx : Nat
  bf : Nat
  bw : Nat
  mo : Nat
  ml : Nat
  mn : Nat
  mx : Nat
  mf : Nat
abbrev ptrV (b : Nat) : Value := .pointer (some ⟨b, 0, none⟩)
/-- The closure's own value. -/
def TjBx.walkV (p : TjBx) : Value := .func (.func 54) #[] #[ptrV p.bo, ptrV p.bl, ptrV p.bs, ptrV p.bn, ptrV p.bx, ptrV p.bf, ptrV p.bw]
/-- What it may change. -/
def TjF (p : TjBx) (B : Nat) (k : Nat) : Prop := k = p.mo ∨ k = p.ml ∨ k = p.mn ∨ k = p.mf ∨ k = p.bs ∨ B ≤ k
structure TjNe (p : TjBx) (B C : Nat) : Prop where
  c : C ≤ p.mo ∧ C ≤ p.ml ∧ C ≤ p.mn ∧ C ≤ p.mf ∧ C ≤ p.bs ∧ p.mx < C ∧ C ≤ B
  b : p.bo < B ∧ p.bl < B ∧ p.bs < B ∧ p.bn < B ∧ p.bx < B ∧ p.bf < B ∧ p.bw < B
  m : p.mo < B ∧ p.ml < B ∧ p.mn < B ∧ p.mf < B
  ne : p.mo ≠ p.ml ∧ p.mo ≠ p.mn ∧ p.mo ≠ p.mf ∧ p.ml ≠ p.mn ∧ p.ml ≠ p.mf ∧ p.mn ≠ p.mf
structure TjFix (p : TjBx) (B C : Nat) (W : World) (next : Int → List Int) : Prop where
  ne : TjNe p B C
  b1 : Blk W p.bo 47 #[.map (some p.mo)]
  b2 : Blk W p.bl 47 #[.map (some p.ml)]
  b4 : Blk W p.bn 62 #[.map (some p.mn)]
  b5 : Blk W p.bx 48 #[.map (some p.mx)]
  b6 : Blk W p.bf 62 #[.map (some p.mf)]
  b7 : Blk W p.bw 98 #[p.walkV]
  nxt : ∃ f, MapIs encI W p.mx f ∧ ∀ x, NumsE W ((f x).getD (.slice none 0 0)) (next x) ∧ ∀ k, ((f x).getD (.slice none 0 0)).ownBlock = some k → k < C
def ordF (s : Tj) : Int → Option Value := fun x => if s.ord x = 0 then none else some (.int .i64 (s.ord x : Nat))
def fndF (s : Tj) : Int → Option Value := fun x => if s.fnd x = true then some (.bool true) else none
structure TjAt (p : TjBx) (B C : Nat) (W : World) (next : Int → List Int) (s : Tj) : Prop where
  fix : TjFix p B C W next
  size : B ≤ W.heap.size
  b3 : ∃ v, Blk W p.bs 25 #[v] ∧ OwnI B W v s.stk
  ord : MapIs encI W p.mo (ordF s)
  low : ∃ f, MapIs encI W p.ml f ∧ ∀ x, (f x).getD (.int .i64 0) = .int .i64 (s.low x : Nat)
  on : ∃ f, MapIs encI W p.mn f ∧ ∀ x, (f x).getD (.bool false) = .bool (s.on x)
  fnd : MapIs encI W p.mf (fndF s)
section
variable {p : TjBx} {B C : Nat} {W W' : World} {next : Int → List Int} {s : Tj}
theorem map_ne_blk {α : Type} {enc : α → Value} {W : World} {b g : Nat} {f : α → Option Value} (h : MapIs enc W b f) {t : TypeId} {cs : Array Value} (hg : Blk W g t cs) : g ≠ b := fun e => h.ne_blk hg e.symm
/-- What changes only what may change: the rest stays. -/
theorem TjAt.keep {F : Nat → Prop} (h : TjAt p B C W next s) (hu : Upd F W W') (hF : ∀ k, F k → TjF p B k) : TjFix p B C W' next := by
  obtain ⟨v, hb3, _⟩ := h.b3
  obtain ⟨f1, hl, _⟩ := h.low
  obtain ⟨f2, hn, _⟩ := h.on
  have hb := h.fix.ne.b
  have hc := h.fix.ne.c
  have key : ∀ {g : Nat} {t : TypeId} {cs : Array Value}, Blk W g t cs → g < B → g ≠ p.bs → ¬ F g := fun hg hlt hne hf => by
    rcases hF _ hf with e | e | e | e | e | e
    · exact map_ne_blk h.ord hg e
    · exact map_ne_blk hl hg e
    · exact map_ne_blk hn hg e
    · exact map_ne_blk h.fnd hg e
    · exact hne e
    · omega
  refine ⟨h.fix.ne, h.fix.b1.upd hu (key h.fix.b1 hb.1 (Blk.ne_ h.fix.b1 hb3 (by decide))), h.fix.b2.upd hu (key h.fix.b2 hb.2.1 (Blk.ne_ h.fix.b2 hb3 (by decide))),
    h.fix.b4.upd hu (key h.fix.b4 hb.2.2.2.1 (Blk.ne_ h.fix.b4 hb3 (by decide))), h.fix.b5.upd hu (key h.fix.b5 hb.2.2.2.2.1 (Blk.ne_ h.fix.b5 hb3 (by decide))),
    h.fix.b6.upd hu (key h.fix.b6 hb.2.2.2.2.2.1 (Blk.ne_ h.fix.b6 hb3 (by decide))), h.fix.b7.upd hu (key h.fix.b7 hb.2.2.2.2.2.2 (Blk.ne_ h.fix.b7 hb3 (by decide))), ?_⟩
  have hlow : ∀ k, k < C → ¬ F k := fun k hk hf => by
    rcases hF _ hf with e | e | e | e | e | e <;> omega
  obtain ⟨f, hm, hx⟩ := h.fix.nxt
  exact ⟨f, hm.upd hu (hlow _ (by omega)), fun x => ⟨(hx x).1.upd hu fun k hk => hlow k ((hx x).2 k hk), (hx x).2⟩⟩
theorem TjAt.stack {F : Nat → Prop} (h : TjAt p B C W next s) (hu : Upd F W W') (hF : ∀ k, F k → k = p.mo ∨ k = p.ml ∨ k = p.mn ∨ k = p.mf) : ∃ v, Blk W' p.bs 25 #[v] ∧ OwnI B W' v s.stk := by
  obtain ⟨v, hb3, ho⟩ := h.b3
  obtain ⟨f1, hl, _⟩ := h.low
  obtain ⟨f2, hn, _⟩ := h.on
  refine ⟨v, hb3.upd hu fun hf => ?_, ho.upd hu fun k hk hf => ?_⟩
  · rcases hF _ hf with e | e | e | e
    · exact map_ne_blk h.ord hb3 e
    · exact map_ne_blk hl hb3 e
    · exact map_ne_blk hn hb3 e
    · exact map_ne_blk h.fnd hb3 e
  · have := ho.new k hk
    have hm := h.fix.ne.m
    rcases hF _ hf with e | e | e | e <;> omega
theorem TjAt.setOrd (h : TjAt p B C W next s) (n : Int) (m : Nat) (hm : m ≠ 0) : ∃ W', (Instr.mapUpdate 47 (.map (some p.mo)) (encI n) (.int .i64 (m : Nat))).run Try.prog W = .ok () W' ∧ TjAt p B C W' next { s with ord := updN s.ord n m } ∧ Upd (TjF p B) W W' := by
  obtain ⟨W', hr, h1, hg, hs⟩ := h.ord.store KI (P := Try.prog) Try.underlying47 Try.underlying3 n (.int .i64 (m : Nat))
  have hu : Upd (fun k => k = p.mo) W W' := (Upd.refl _ W).grown hg fun k hk _ => (Option.some.inj hk).symm
  obtain ⟨f1, hl, hl2⟩ := h.low
  obtain ⟨f2, hn, hn2⟩ := h.on
  have ne := h.fix.ne.ne
  refine ⟨W', hr, ⟨h.keep hu fun k hk => .inl hk, by rw [hs]; exact h.size, h.stack hu fun k hk => .inl hk, h1.congr fun x => ?_, ⟨f1, hl.upd hu (by omega), hl2⟩, ⟨f2, hn.upd hu (by omega), hn2⟩, h.fnd.upd hu (by omega)⟩, hu.mono fun k _ hk => .inl hk⟩
  unfold putF ordF updN
  by_cases e : x = n
  · simp [e, hm]
  · simp [e]
theorem TjAt.setLow (h : TjAt p B C W next s) (n : Int) (m : Nat) : ∃ W', (Instr.mapUpdate 47 (.map (some p.ml)) (encI n) (.int .i64 (m : Nat))).run Try.prog W = .ok () W' ∧ TjAt p B C W' next { s with low := updN s.low n m } ∧ Upd (TjF p B) W W' := by
  obtain ⟨f1, hl, hl2⟩ := h.low
  obtain ⟨f2, hn, hn2⟩ := h.on
  obtain ⟨W', hr, h1, hg, hs⟩ := hl.store KI (P := Try.prog) Try.underlying47 Try.underlying3 n (.int .i64 (m : Nat))
  have hu : Upd (fun k => k = p.ml) W W' := (Upd.refl _ W).grown hg fun k hk _ => (Option.some.inj hk).symm
  have ne := h.fix.ne.ne
  refine ⟨W', hr, ⟨h.keep hu fun k hk => .inr (.inl hk), by rw [hs]; exact h.size, h.stack hu fun k hk => .inr (.inl hk), h.ord.upd hu (by omega), ⟨_, h1, fun x => ?_⟩, ⟨f2, hn.upd hu (by omega), hn2⟩, h.fnd.upd hu (by omega)⟩, hu.mono fun k _ hk => .inr (.inl hk)⟩
  unfold putF updN
  by_cases e : x = n
  · simp [e]
  · simp [e, hl2]
theorem TjAt.setOn (h : TjAt p B C W next s) (n : Int) (m : Bool) : ∃ W', (Instr.mapUpdate 62 (.map (some p.mn)) (encI n) (.bool m)).run Try.prog W = .ok () W' ∧ TjAt p B C W' next { s with on := updN s.on n m } ∧ Upd (TjF p B) W W' ∧ Upd (fun k => k = p.mn) W W' := by
  obtain ⟨f1, hl, hl2⟩ := h.low
  obtain ⟨f2, hn, hn2⟩ := h.on
  obtain ⟨W', hr, h1, hg, hs⟩ := hn.store KI (P := Try.prog) Try.underlying62 Try.underlying3 n (.bool m)
  have hu : Upd (fun k => k = p.mn) W W' := (Upd.refl _ W).grown hg fun k hk _ => (Option.some.inj hk).symm
  have ne := h.fix.ne.ne
  refine ⟨W', hr, ⟨h.keep hu fun k hk => .inr (.inr (.inl hk)), by rw [hs]; exact h.size, h.stack hu fun k hk => .inr (.inr (.inl hk)), h.ord.upd hu (by omega), ⟨f1, hl.upd hu (by omega), hl2⟩, ⟨_, h1, fun x => ?_⟩, h.fnd.upd hu (by omega)⟩, hu.mono fun k _ hk => .inr (.inr (.inl hk)), hu⟩
  unfold putF updN
  by_cases e : x = n
  · simp [e]
  · simp [e, hn2]
theorem TjAt.setFnd (h : TjAt p B C W next s) (n : Int) : ∃ W', (Instr.mapUpdate 62 (.map (some p.mf)) (encI n) (.bool true)).run Try.prog W = .ok () W' ∧ TjAt p B C W' next { s with fnd := updN s.fnd n true } ∧ Upd (TjF p B) W W' ∧ Upd (fun k => k = p.mf) W W' := by
  obtain ⟨f1, hl, hl2⟩ := h.low
  obtain ⟨f2, hn, hn2⟩ := h.on
  obtain ⟨W', hr, h1, hg, hs⟩ := h.fnd.store KI (P := Try.prog) Try.underlying62 Try.underlying3 n (.bool true)
  have hu : Upd (fun k => k = p.mf) W W' := (Upd.refl _ W).grown hg fun k hk _ => (Option.some.inj hk).symm
  have ne := h.fix.ne.ne
  refine ⟨W', hr, ⟨h.keep hu fun k hk => .inr (.inr (.inr (.inl hk))), by rw [hs]; exact h.size, h.stack hu fun k hk => .inr (.inr (.inr hk)), h.ord.upd hu (by omega), ⟨f1, hl.upd hu (by omega), hl2⟩, ⟨f2, hn.upd hu (by omega), hn2⟩, h1.congr fun x => ?_⟩, hu.mono fun k _ hk => .inr (.inr (.inr (.inl hk))), hu⟩
  unfold putF fndF updN
  by_cases e : x = n
  · simp [e]
  · simp [e]
/-- A new row of the stack is stored. -/
theorem TjAt.store (h : TjAt p B C W next s) {w3 : World} {v3 : Value} {L : List Int} (hu3 : Upd (fun k => B ≤ k) W w3) (ho : OwnI B w3 v3 L) : TjAt p B C (w3.setCell ⟨p.bs, 0, none⟩ v3) next { s with stk := L } ∧ Upd (TjF p B) W (w3.setCell ⟨p.bs, 0, none⟩ v3) ∧ ∃ v, Blk w3 p.bs 25 #[v] := by
  obtain ⟨v, hb3, _⟩ := h.b3
  obtain ⟨f1, hl, hl2⟩ := h.low
  obtain ⟨f2, hn, hn2⟩ := h.on
  have hm := h.fix.ne.m
  have hbs := h.fix.ne.b.2.2.1
  have hb3' : Blk w3 p.bs 25 #[v] := hb3.upd hu3 (by omega)
  have hu : Upd (TjF p B) W (w3.setCell ⟨p.bs, 0, none⟩ v3) := (hu3.mono fun k _ hk => .inr (.inr (.inr (.inr (.inr hk))))).setCell (fun _ => .inr (.inr (.inr (.inr (.inl rfl))))) v3
  refine ⟨⟨h.keep hu fun k hk => hk, by have := hu3.size; have := h.size; simp [World.setCell]; omega, ⟨v3, hb3'.set_ 0 v3, ?_⟩, (h.ord.upd hu3 (by omega)).setCell _ _, ⟨f1, (hl.upd hu3 (by omega)).setCell _ _, hl2⟩, ⟨f2, (hn.upd hu3 (by omega)).setCell _ _, hn2⟩, (h.fnd.upd hu3 (by omega)).setCell _ _⟩, hu, ⟨v, hb3'⟩⟩
  exact ho.upd ((Upd.refl (· = p.bs) w3).setCell (fun _ => rfl) v3) fun k hk e => by have := ho.new k hk; omega
theorem TjAt.ordL (h : TjAt p B C W next s) (x : Int) : (Instr.lookup 47 (.map (some p.mo)) (.int .i64 x) false).run Try.prog W = .ok (.int .i64 (s.ord x : Nat)) W := by
  have := h.ord.look KI (P := Try.prog) Try.underlying47 Try.underlying3 (Try.zeroValue3 _) x false
  simp only [Bool.false_eq_true, if_false] at this
  rw [show (ordF s x).getD (.int .i64 0) = .int .i64 (s.ord x : Nat) by unfold ordF; split <;> simp_all] at this
  exact this
theorem TjAt.lowL (h : TjAt p B C W next s) (x : Int) : (Instr.lookup 47 (.map (some p.ml)) (.int .i64 x) false).run Try.prog W = .ok (.int .i64 (s.low x : Nat)) W := by
  obtain ⟨f1, hl, hl2⟩ := h.low
  have := hl.look KI (P := Try.prog) Try.underlying47 Try.underlying3 (Try.zeroValue3 _) x false
  simp only [Bool.false_eq_true, if_false] at this
  rw [hl2] at this
  exact this
theorem TjAt.onL (h : TjAt p B C W next s) (x : Int) : (Instr.lookup 62 (.map (some p.mn)) (.int .i64 x) false).run Try.prog W = .ok (.bool (s.on x)) W := by
  obtain ⟨f1, hl, hl2⟩ := h.on
  have := hl.look KI (P := Try.prog) Try.underlying62 Try.underlying3 (Try.zeroValue4 _) x false
  simp only [Bool.false_eq_true, if_false] at this
  rw [hl2] at this
  exact this
theorem TjAt.nextL (h : TjAt p B C W next s) (x : Int) : ∃ v, (Instr.lookup 48 (.map (some p.mx)) (.int .i64 x) false).run Try.prog W = .ok v W ∧ NumsE W v (next x) ∧ ∀ k, v.ownBlock = some k → k < C := by
  obtain ⟨f, hm, hx⟩ := h.fix.nxt
  have := hm.look KI (P := Try.prog) Try.underlying48 Try.underlying3 (Try.zeroValue25 _) x false
  simp only [Bool.false_eq_true, if_false] at this
  exact ⟨_, this, hx x⟩
theorem TjAt.lenO (h : TjAt p B C W next s) (hi : InvT s) (ty : TypeId) : (Builtin.len_ #[47] ty #[.map (some p.mo)]).run Try.prog W = .ok (.int .i64 (s.vis.length : Nat)) W :=
  h.ord.len (fun h => by injection h) hi.nd (fun a => by rw [← hi.iv]; unfold ordF; split <;> simp_all) Try.underlying47 ty
/-- The boxes' cells, as a walk reads them. -/
structure TjCells (p : TjBx) (W : World) (v : Value) : Prop where
  c1 : W.cell? ⟨p.bo, 0, none⟩ = some (.map (some p.mo))
  c2 : W.cell? ⟨p.bl, 0, none⟩ = some (.map (some p.ml))
  c3 : W.cell? ⟨p.bs, 0, none⟩ = some v
  c4 : W.cell? ⟨p.bn, 0, none⟩ = some (.map (some p.mn))
  c5 : W.cell? ⟨p.bx, 0, none⟩ = some (.map (some p.mx))
  c6 : W.cell? ⟨p.bf, 0, none⟩ = some (.map (some p.mf))
  c7 : W.cell? ⟨p.bw, 0, none⟩ = some p.walkV
theorem TjAt.cells (h : TjAt p B C W next s) : ∃ v, TjCells p W v ∧ OwnI B W v s.stk ∧ Blk W p.bs 25 #[v] := by
  obtain ⟨v, hb, ho⟩ := h.b3
  exact ⟨v, ⟨h.fix.b1.cell 0, h.fix.b2.cell 0, hb.cell 0, h.fix.b4.cell 0, h.fix.b5.cell 0, h.fix.b6.cell 0, h.fix.b7.cell 0⟩, ho, hb⟩
end
end Go.Proofs.Ytddknmgajacofaa
