/-
  AuditNil: a look begins.
-/
import Derived.Test.YtekflbnfagldcaaGreatDoorAuC
import Derived.Test.YtekflbnfagldcaaGreatDoorCoreC
import Derived.Maps.AppendAt
namespace Go.Proofs.YtekflbnfagldcaaGreatDoor
open Go Ev Go.RowKit

theorem info_page : (Tryz.prog.info? 86).map (fun i => (i.zero, i.size, i.bytes)) = some (some (.agg #[.int .i64 0, .slice none 0 0]), 2, 32) := by kernel_rfl
theorem info_int2 : (Tryz.prog.info? 3).map (fun i => (i.zero, i.size, i.bytes)) = some (some (.int .i64 0), 1, 8) := by kernel_rfl
/-- append of one element to an own row. -/
theorem run_append_one {P : Program} (t e : TypeId) (i : TypeInfo) (z : Value) (size bytes : Nat) (ht : P.underlying t = some (.slice e)) (hi : P.info? e = some i) (hz : i.zero = some z) (hs : i.size = size) (hb' : i.bytes = bytes) (hzs : z.cells.size = size) (hpos : 0 < size) (hby : bytes ≤ 1000)
    (W : World) (base : Nat) (v : Value) (n : Nat) (xs cs : List Value) (hcs : cs.length = size) (h1 : ∀ u ∈ cs, u.oneCell' = true) (hrow : W.ownsRow base e size v n xs) (hn : n ≤ 1000) (hb : base ≤ W.heap.size) :
    ∃ A c w', (Builtin.append_ #[t, t] t #[v, .slice (some ⟨W.heap.size, 0, none⟩) 1 1]).run P (W.alloc (.cells ⟨cs⟩ e)) = .ok (.slice A (n + 1) c) w' ∧
      w'.ownsRow base e size (.slice A (n + 1) c) (n + 1) (xs ++ cs) ∧ Upd (fun k => v.ownBlock = some k) W w' ∧ (∀ k, (Value.slice A (n + 1) c).ownBlock = some k → v.ownBlock = some k ∨ W.heap.size ≤ k) := by
  obtain ⟨v', w', hrun, ho, hg, _, hown⟩ := run_append_own_at (P := P) (W.alloc (.cells ⟨cs⟩ e)) base t t e i z size bytes ht hi hz hs hb' hzs hpos v n xs (hrow.alloc _)
    ⟨W.heap.size, 0, none⟩ 1 1 cs (by rw [hcs]; omega) (fun j u hj => by
      have hj' : j < cs.length := (List.getElem?_eq_some_iff.1 hj).1
      have e1 : (⟨W.heap.size, 0, none⟩ : Addr).add j = ⟨W.heap.size, j, none⟩ := by unfold Addr.add; split <;> simp_all
      rw [e1, (Blk.new W _ _).cell j]
      simpa using hj) h1 (by simp only [maxLen]; omega) (by
        have : (n + 1) * bytes ≤ 1001 * 1000 := Nat.mul_le_mul (by omega) hby
        omega) (by simp; omega)
  obtain ⟨A, c, rfl⟩ := own_form ho
  refine ⟨A, c, w', hrun, ho, ((Upd.refl _ W).alloc _).grown hg fun k hk _ => hk, fun k hk => ?_⟩
  rcases hown with h | h
  · rw [h] at hk; exact .inl hk
  · rw [h] at hk
    simp at hk
    exact .inr (by omega)

section
variable {g p f : Int} {ρ : Ren} {w : World}
theorem copied_ok' (hw : AuAt g p f auB0 100 ρ w) {vd : Value} (hl : VR ρ (envOf (auSyms g p f [])) (.pointer (some ⟨19, 0, none⟩)) vd) :
    Calls Tryz.prog 31 #[vd] w fun e w' => ∃ ρ' v', e = .returned v' ∧ VR ρ' (envOf (auSyms g p f [])) d1 v' ∧ cutR 100 ρ' = ρ ∧ AuAt g p f auB1 105 ρ' w' ∧ Upd (InCore auB0 ρ) w w' ∧ ∀ b, InCore auB1 ρ' b → InCore auB0 ρ b ∨ w.heap.size ≤ b :=
  core_step' (v := d1) mix0 (cx0 (l := auSyms g p f []) rfl) fns0 ext0 (fn := Tryz.f31) (by kernel_rfl) rfl run_copied low0 low1 self0 (by omega) (by omega) (by omega) (by kernel_rfl) (fun _ _ => rfl) facts_nil hw (au_args hl)
theorem open_ok' (hg0 : 64 ≤ g) (hg1 : g ≤ 1024) (hp0 : 1 ≤ p) (hp1 : p ≤ 64) (hw : AuAt g p f auB1 105 ρ w) {vd : Value} (hl : VR ρ (envOf (auSyms g p f [])) d1 vd) :
    Calls Tryz.prog 32 #[vd, .int .i64 g] w fun e w' => ∃ ρ' v', e = .returned v' ∧ VR ρ' (envOf (auSyms g p f [])) (.tuple ⟨[.pointer (some ⟨131, 0, none⟩), nu 0]⟩) v' ∧ cutR 105 ρ' = ρ ∧ AuAt g p f auB2 174 ρ' w' ∧ Upd (InCore auB1 ρ) w w' ∧ ∀ b, InCore auB2 ρ' b → InCore auB1 ρ b ∨ w.heap.size ≤ b :=
  core_step' (v := .tuple ⟨[.pointer (some ⟨131, 0, none⟩), nu 0]⟩) mix0 (cx0 (l := auSyms g p f []) rfl) fns0 ext0 (fn := Tryz.f32) (by kernel_rfl) rfl run_open low1 low2 self1 (by omega) (by omega) (by omega) (by kernel_rfl) (fun _ _ => rfl) (open_facts hg0 hg1 hp0 hp1) hw (.cons hl (.cons (.sym 0) .nil))
theorem selfB : baseOk (coreH auB2 174 []) auB0 = true := by kernel_rfl
end
theorem own_own_ne {w : World} {b b' : Nat} {e e' : TypeId} {s s' n n' : Nat} {v v' : Value} {xs xs' : List Value} (h : w.ownsRow b e s v n xs) (h' : w.ownsRow b' e' s' v' n' xs') (hne : e ≠ e') (k : Nat) (hk : v.ownBlock = some k) : v'.ownBlock ≠ some k := by
  rcases h.2 with ⟨rfl, _⟩ | ⟨g, cap, cur, rfl, _, hh, _⟩
  · cases hk
  · rcases h'.2 with ⟨rfl, _⟩ | ⟨g', cap', cur', rfl, _, hh', _⟩
    · simp [Value.ownBlock]
    · intro hk'
      have e1 : g = k := by simpa [Value.ownBlock] using hk
      have e2 : g' = k := by simpa [Value.ownBlock] using hk'
      subst e1
      subst e2
      rw [hh] at hh'
      simp at hh'
      exact hne hh'.2
/-- The cells of so many empty pages. -/
def zP (n : Nat) : List Value := (List.replicate n [.int .i64 0, .slice none 0 0]).flatten
theorem zP_succ (n : Nat) : zP (n + 1) = zP n ++ [.int .i64 0, .slice none 0 0] := by
  unfold zP
  rw [List.replicate_succ', List.flatten_append]
  rfl
/-- A look at an empty disk, as it is made. -/
structure LookP (g p f : Int) (ρ : Ren) (bx b4 o4 b6 o6 B : Nat) (w0 : World) (n m : Nat) (pg tn : Value) (w : World) : Prop where
  core : AuAt g p f auB2 174 ρ w
  blk : LookAt bx (.pointer (some ⟨b4, o4, none⟩)) (.pointer (some ⟨b6, o6, none⟩)) pg tn g p f w
  pgs : w.ownsRow B 86 2 pg n (zP n)
  tns : w.ownsRow B 3 1 tn m (List.replicate m (.int .i64 0))
  nx : ¬ InCore auB2 ρ bx
  low : ∀ b, InCore auB2 ρ b → b < B
  upd : Upd (fun k => InCore auB2 ρ k ∨ k = bx ∨ B ≤ k) w0 w
section
variable {g p f : Int} {ρ : Ren} {bx b4 o4 b6 o6 B n m : Nat} {pg tn : Value} {w0 w w' : World}
theorem LookP.own (h : LookP g p f ρ bx b4 o4 b6 o6 B w0 n m pg tn w) {k : Nat} (hk : pg.ownBlock = some k ∨ tn.ownBlock = some k) : ¬ InCore auB2 ρ k := fun hc => by
  have := h.low _ hc
  rcases hk with hk | hk
  · have := (h.pgs.lt k hk).1; omega
  · have := (h.tns.lt k hk).1; omega
theorem LookP.go (h : LookP g p f ρ bx b4 o4 b6 o6 B w0 n m pg tn w) (hu : Upd (InCore auB2 ρ) w w') (hw : AuAt g p f auB2 174 ρ w') : LookP g p f ρ bx b4 o4 b6 o6 B w0 n m pg tn w' :=
  ⟨hw, Blk.upd h.blk hu h.nx, own_upd h.pgs hu fun _ hk => h.own (.inl hk), own_upd h.tns hu fun _ hk => h.own (.inr hk), h.nx, h.low, h.upd.trans hu fun _ _ hk => .inl hk⟩
theorem LookP.far (h : LookP g p f ρ bx b4 o4 b6 o6 B w0 n m pg tn w) (hu : Upd Nowhere w w') : LookP g p f ρ bx b4 o4 b6 o6 B w0 n m pg tn w' :=
  ⟨h.core.upd low2 hu fun _ _ _ h => h, Blk.upd h.blk hu id, own_upd h.pgs hu fun _ _ => id, own_upd h.tns hu fun _ _ => id, h.nx, h.low, h.upd.trans hu fun _ _ hk => hk.elim⟩
theorem LookP.page (h : LookP g p f ρ bx b4 o4 b6 o6 B w0 n m pg tn w) {A : Option Addr} {c : Nat} (ho : w'.ownsRow B 86 2 (.slice A (n + 1) c) (n + 1) (zP (n + 1))) (hu : Upd (fun k => pg.ownBlock = some k) w w') (hk : ∀ k, (Value.slice A (n + 1) c).ownBlock = some k → pg.ownBlock = some k ∨ w.heap.size ≤ k) :
    LookP g p f ρ bx b4 o4 b6 o6 B w0 (n + 1) m (.slice A (n + 1) c) tn (w'.setCell ⟨bx, 5, none⟩ (.slice A (n + 1) c)) := by
  have hbx : ¬ pg.ownBlock = some bx := own_blk_ne h.pgs h.blk (by decide)
  have hb := Blk.upd h.blk hu hbx
  have hs : Upd (fun k => k = bx) w' (w'.setCell ⟨bx, 5, none⟩ (.slice A (n + 1) c)) := Upd.setCell (F := fun k => k = bx) (Upd.refl _ w') (p := ⟨bx, 5, none⟩) (fun _ => rfl) _
  have ht := own_upd h.tns hu fun _ hk hk' => own_own_ne h.pgs h.tns (by decide) _ hk' hk
  refine ⟨(h.core.upd low2 hu fun b _ hc hb => h.own (.inl hb) hc).upd low2 hs fun b _ hc he => h.nx (he ▸ hc), ?_, own_upd ho hs ?_, own_upd ht hs ?_, h.nx, h.low, (h.upd.trans hu fun k _ hk => .inr (.inr (h.pgs.lt k hk).1)).trans hs fun _ _ hk => .inr (.inl hk)⟩
  · exact hb.set_ 5 _
  · rintro k hk1 rfl
    rcases hk k hk1 with h1 | h1
    · exact hbx h1
    · have := Blk.lt h.blk; omega
  · rintro k hk1 rfl
    exact own_blk_ne h.tns h.blk (by decide) hk1
theorem LookP.turn (h : LookP g p f ρ bx b4 o4 b6 o6 B w0 n m pg tn w) {A : Option Addr} {c : Nat} (ho : w'.ownsRow B 3 1 (.slice A (m + 1) c) (m + 1) (List.replicate (m + 1) (.int .i64 0))) (hu : Upd (fun k => tn.ownBlock = some k) w w') (hk : ∀ k, (Value.slice A (m + 1) c).ownBlock = some k → tn.ownBlock = some k ∨ w.heap.size ≤ k) :
    LookP g p f ρ bx b4 o4 b6 o6 B w0 n (m + 1) pg (.slice A (m + 1) c) (w'.setCell ⟨bx, 6, none⟩ (.slice A (m + 1) c)) := by
  have hbx : ¬ tn.ownBlock = some bx := own_blk_ne h.tns h.blk (by decide)
  have hb := Blk.upd h.blk hu hbx
  have hs : Upd (fun k => k = bx) w' (w'.setCell ⟨bx, 6, none⟩ (.slice A (m + 1) c)) := Upd.setCell (F := fun k => k = bx) (Upd.refl _ w') (p := ⟨bx, 6, none⟩) (fun _ => rfl) _
  have ht := own_upd h.pgs hu fun _ hk hk' => own_own_ne h.tns h.pgs (by decide) _ hk' hk
  refine ⟨(h.core.upd low2 hu fun b _ hc hb => h.own (.inr hb) hc).upd low2 hs fun b _ hc he => h.nx (he ▸ hc), ?_, own_upd ht hs ?_, own_upd ho hs ?_, h.nx, h.low, (h.upd.trans hu fun k _ hk => .inr (.inr (h.tns.lt k hk).1)).trans hs fun _ _ hk => .inr (.inl hk)⟩
  · exact hb.set_ 6 _
  · rintro k hk1 rfl
    exact own_blk_ne h.pgs h.blk (by decide) hk1
  · rintro k hk1 rfl
    rcases hk k hk1 with h1 | h1
    · exact hbx h1
    · have := Blk.lt h.blk; omega
/-- What a new block's store leaves is beside a look. -/
theorem LookP.beside (h : LookP g p f ρ bx b4 o4 b6 o6 B w0 n m pg tn w) {r : Nat} (hu : Upd (fun k => k = r) w w') (h1 : ¬ InCore auB2 ρ r) (h2 : r ≠ bx) (h3 : pg.ownBlock ≠ some r) (h4 : tn.ownBlock ≠ some r) (h5 : B ≤ r) : LookP g p f ρ bx b4 o4 b6 o6 B w0 n m pg tn w' :=
  ⟨h.core.upd low2 hu fun _ _ hc he => h1 (he ▸ hc), Blk.upd h.blk hu fun he => h2 he.symm, own_upd h.pgs hu fun _ hk he => h3 (he ▸ hk), own_upd h.tns hu fun _ hk he => h4 (he ▸ hk), h.nx, h.low, h.upd.trans hu fun _ _ he => .inr (.inr (he ▸ h5))⟩
theorem info_parts' {P : Program} {t : TypeId} {z : Value} {s b : Nat} (h : (P.info? t).map (fun i => (i.zero, i.size, i.bytes)) = some (some z, s, b)) : ∃ i, P.info? t = some i ∧ i.zero = some z ∧ i.size = s ∧ i.bytes = b := by
  cases hi : P.info? t with
  | none => rw [hi] at h; cases h
  | some i =>
    rw [hi] at h
    simp only [Option.map_some, Option.some.injEq, Prod.mk.injEq] at h
    exact ⟨i, rfl, h.1, h.2.1, h.2.2⟩
theorem LookP.addPage (h : LookP g p f ρ bx b4 o4 b6 o6 B w0 n m pg tn w) (hn : n ≤ 1000) (hB : B ≤ w.heap.size) : ∃ A c w', (Builtin.append_ #[43, 43] 43 #[pg, .slice (some ⟨w.heap.size, 0, none⟩) 1 1]).run Tryz.prog (w.alloc (.cells #[.int .i64 0, .slice none 0 0] 86)) = .ok (.slice A (n + 1) c) w' ∧
    LookAt bx (.pointer (some ⟨b4, o4, none⟩)) (.pointer (some ⟨b6, o6, none⟩)) pg tn g p f w' ∧ LookP g p f ρ bx b4 o4 b6 o6 B w0 (n + 1) m (.slice A (n + 1) c) tn (w'.setCell ⟨bx, 5, none⟩ (.slice A (n + 1) c)) := by
  obtain ⟨i, hi, hz, hs, hb⟩ := info_parts' info_page
  obtain ⟨A, c, w', hrun, ho, hu, hk⟩ := run_append_one (P := Tryz.prog) 43 86 i _ 2 32 Tryz.underlying43 hi hz hs hb rfl (by omega) (by omega) w B pg n (zP n) [.int .i64 0, .slice none 0 0] rfl (by simp [Value.oneCell']) h.pgs hn hB
  rw [← zP_succ] at ho
  exact ⟨A, c, w', hrun, Blk.upd h.blk hu (own_blk_ne h.pgs h.blk (by decide)), h.page ho hu hk⟩
theorem LookP.addTurn (h : LookP g p f ρ bx b4 o4 b6 o6 B w0 n m pg tn w) (hn : m ≤ 1000) (hB : B ≤ w.heap.size) : ∃ A c w', (Builtin.append_ #[24, 24] 24 #[tn, .slice (some ⟨w.heap.size, 0, none⟩) 1 1]).run Tryz.prog (w.alloc (.cells #[.int .i64 0] 3)) = .ok (.slice A (m + 1) c) w' ∧
    LookAt bx (.pointer (some ⟨b4, o4, none⟩)) (.pointer (some ⟨b6, o6, none⟩)) pg tn g p f w' ∧ LookP g p f ρ bx b4 o4 b6 o6 B w0 n (m + 1) pg (.slice A (m + 1) c) (w'.setCell ⟨bx, 6, none⟩ (.slice A (m + 1) c)) := by
  obtain ⟨i, hi, hz, hs, hb⟩ := info_parts' info_int2
  obtain ⟨A, c, w', hrun, ho, hu, hk⟩ := run_append_one (P := Tryz.prog) 24 3 i _ 1 8 Tryz.underlying24 hi hz hs hb rfl (by omega) (by omega) w B tn m (List.replicate m (.int .i64 0)) [.int .i64 0] rfl (by simp [Value.oneCell']) h.tns hn hB
  rw [← List.replicate_succ'] at ho
  exact ⟨A, c, w', hrun, Blk.upd h.blk hu (own_blk_ne h.tns h.blk (by decide)), h.turn ho hu hk⟩
end
theorem vr_tup {ρ : Ren} {env : Nat → Value} {a : Addr} {v : Value} (h : VR ρ env (.tuple ⟨[.pointer (some a), nu 0]⟩) v) : ∃ b o, v = .tuple #[.pointer (some ⟨b, o, none⟩), .int .i64 0] ∧ VR ρ env (.pointer (some a)) (.pointer (some ⟨b, o, none⟩)) := by
  cases h with
  | tuple hl =>
    cases hl with
    | cons h1 h2 =>
      cases h2 with
      | cons h3 h4 =>
        cases h4
        cases h3
        cases h1 with
        | ptr e => exact ⟨_, _, rfl, .ptr e⟩
theorem vr_ptr {ρ : Ren} {env : Nat → Value} {a : Addr} {v : Value} (h : VR ρ env (.pointer (some a)) v) : ∃ b o, v = .pointer (some ⟨b, o, none⟩) := by
  cases h with
  | ptr e => exact ⟨_, _, rfl⟩
end Go.Proofs.YtekflbnfagldcaaGreatDoor
