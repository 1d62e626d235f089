/-
  Acts in a row; the maker: often, puts.
-/
import Derived.Test.YtlboobboacjnmaaDoorLoadA
import Derived.Deep.RegionLaw
namespace Go.Proofs.YtlboobboacjnmaaDoor
open Go Go.RowKit

/-- An act that a load has. -/
structure ActD where
  kind : Int
  n : Int := 0
  tx : Int := 0
  key : ByteArray := ⟨#[]⟩
  has : Bool := false
  data : ByteArray := ⟨#[]⟩

def ActD.cells (a : ActD) : List Value := [.int .i64 a.kind, .int .i64 a.n, .int .i64 0, .int .u8 0, .int .i64 a.tx, .string a.key, .bool a.has, .string a.data, .slice none 0 0, .bool false, .int .i64 0]
theorem ActD.cells_length (a : ActD) : a.cells.length = 11 := rfl
def flatA (L : List ActD) : List Value := L.flatMap ActD.cells
theorem flatA_append (L K : List ActD) : flatA (L ++ K) = flatA L ++ flatA K := by simp [flatA]
theorem flatA_length (L : List ActD) : (flatA L).length = L.length * 11 := by
  induction L with
  | nil => rfl
  | cons x L ih => simp only [flatA, List.flatMap_cons, List.length_append, List.length_cons, ActD.cells_length] at ih ⊢; omega
theorem flatA_get {L : List ActD} {i : Nat} {x : ActD} (h : L[i]? = some x) (j : Nat) (hj : j < 11) : (flatA L)[i * 11 + j]? = x.cells[j]? := by
  induction L generalizing i with
  | nil => simp at h
  | cons y L ih =>
    rcases i with _ | i
    · obtain rfl : y = x := by simpa using h
      simp only [flatA, List.flatMap_cons, Nat.zero_mul, Nat.zero_add]
      rw [List.getElem?_append_left (by rw [ActD.cells_length]; exact hj)]
    · have h' : L[i]? = some x := by simpa using h
      have := ih h'
      simp only [flatA, List.flatMap_cons]
      rw [List.getElem?_append_right (by rw [ActD.cells_length]; omega)]
      rw [← this]
      congr 1
      rw [ActD.cells_length]
      omega
theorem flatA_one (L : List ActD) : ∀ u ∈ flatA L, u.oneCell' = true := by
  intro u hu
  obtain ⟨x, _, hu⟩ := List.mem_flatMap.1 hu
  simp only [ActD.cells, List.mem_cons, List.not_mem_nil, or_false] at hu
  rcases hu with rfl | rfl | rfl | rfl | rfl | rfl | rfl | rfl | rfl | rfl | rfl <;> rfl

theorem info_act : (Tryd.prog.info? 39).map (fun i => (i.zero, i.size, i.bytes)) = some (some (.agg #[.int .i64 0, .int .i64 0, .int .i64 0, .int .u8 0, .int .i64 0, .string ⟨#[]⟩, .bool false, .string ⟨#[]⟩, .slice none 0 0, .bool false, .int .i64 0]), 11, 120) := by kernel_rfl

/-- append of acts to an owned row. -/
theorem run_append_acts (W : World) (v : Value) (n : Nat) (xs : List Value) (hrow : W.ownsRow 0 39 11 v n xs) (ad : Addr) (m c : Nat) (news : List Value) (hl : news.length = m * 11) (hcells : ∀ j u, news[j]? = some u → W.cell? (ad.add j) = some u) (h1 : ∀ u ∈ news, u.oneCell' = true) (hn : n + m ≤ 100000) :
    ∃ v' w', (Builtin.append_ #[25, 25] 25 #[v, .slice (some ad) m c]).run Tryd.prog W = .ok v' w' ∧
      w'.ownsRow 0 39 11 v' (n + m) (xs ++ news) ∧ Upd (fun k => v.ownBlock = some k) W w' ∧ (∀ k, v'.ownBlock = some k → v.ownBlock = some k ∨ W.heap.size ≤ k) := by
  obtain ⟨i, hi, hz, hs, hb⟩ := info_parts info_act
  obtain ⟨v', w', hrun, ho, hg, _, hown⟩ := run_append_own_at (P := Tryd.prog) W 0 25 25 39 i _ 11 120 Tryd.underlying25 hi hz hs hb rfl (by omega) v n xs hrow ad m c news hl hcells h1 (by simp only [maxLen]; omega) (by omega) (Nat.zero_le _)
  refine ⟨v', w', hrun, ho, (Upd.refl _ W).grown hg fun k hk _ => hk, fun k hk => ?_⟩
  rcases hown with e | e
  · rw [e] at hk; exact .inl hk
  · rw [e] at hk
    simp at hk
    right
    omega

/-- A mix. -/
structure MixD where
  nodes : Int
  txs : Int
  steps : Int
  keys : Int
  writes : Int
  quits : Int
  drops : Int
  falls : Int
def MixD.cells (m : MixD) : List Value := [.int .i64 m.nodes, .int .i64 m.txs, .int .i64 m.steps, .int .i64 m.keys, .int .i64 m.writes, .int .i64 m.quits, .int .i64 m.drops, .int .i64 m.falls]

/-- The maker in memory. -/
structure MkP (w : World) (bx bs : Nat) (m : MixD) (x : Int) (v : Value) (L : List ActD) : Prop where
  blk : Blk w bx 45 #[.int .i64 m.nodes, .int .i64 m.txs, .int .i64 m.steps, .int .i64 m.keys, .int .i64 m.writes, .int .i64 m.quits, .int .i64 m.drops, .int .i64 m.falls, .func (.func 10) #[.pointer (some ⟨bs, 0, none⟩)] #[], v]
  seed : Blk w bs 41 #[.int .u64 x]
  row : w.ownsRow 0 39 11 v L.length (flatA L)

def mfoot (bx bs : Nat) (v : Value) (k : Nat) : Prop := k = bx ∨ k = bs ∨ v.ownBlock = some k

section
variable {F : Nat → Prop} {w w' : World} {bx bs : Nat} {m : MixD} {x : Int} {v : Value} {L : List ActD}
theorem MkP.upd (h : MkP w bx bs m x v L) (hu : Upd F w w') (hF : ∀ k, mfoot bx bs v k → ¬ F k) : MkP w' bx bs m x v L :=
  ⟨h.blk.upd hu (hF _ (.inl rfl)), h.seed.upd hu (hF _ (.inr (.inl rfl))), own_upd h.row hu fun k hk => hF k (.inr (.inr hk))⟩
theorem MkP.lt (h : MkP w bx bs m x v L) {k : Nat} (hk : mfoot bx bs v k) : k < w.heap.size := by
  rcases hk with rfl | rfl | hk
  · exact h.blk.lt
  · exact h.seed.lt
  · exact own_lt h.row hk
/-- One draw. -/
theorem MkP.draw (h : MkP w bx bs m x v L) (hs : Blk w' bs 41 #[.int .u64 (nx x)]) (hu : Upd (· = bs) w w') : MkP w' bx bs m (nx x) v L :=
  ⟨h.blk.upd hu fun he => h.blk.ne_ h.seed (by decide) he, hs, own_upd h.row hu fun k hk he => by subst he; exact own_blk_ne h.row h.seed (by decide) hk⟩
end

set_option maxHeartbeats 1000000 in
set_option maxRecDepth 100000 in
theorem often_ok (bx bs : Nat) (m : MixD) (x : Int) (v : Value) (L : List ActD) (p : Int) (w : World) (h : MkP w bx bs m x v L) :
    Calls Tryd.prog 18 #[.pointer (some ⟨bx, 0, none⟩), .int .i64 p] w fun e w' => e = .returned (.bool (decide (dr x 100 < p))) ∧ MkP w' bx bs m (nx x) v L ∧ Upd (· = bs) w w' := by
  have cb := h.blk.cell
  have H := Lib.hid h
  clear h
  go_enter Tryd.func18, Tryd.ntmps18
  go_wp2_with fail
  refine (oneOf_ok bs x 100 w H.out.seed (by decide)).mono ?_
  rintro e w1 ⟨rfl, hs, hu⟩
  have HQ := Lib.hid (And.intro (H.out.draw hs hu) hu)
  clear hs hu cb
  go_wp2
  go_ret
  exact ⟨rfl, HQ.out⟩

set_option maxHeartbeats 1000000 in
set_option maxRecDepth 100000 in
theorem puts_ok (bx bs : Nat) (m : MixD) (x : Int) (v : Value) (L K : List ActD) (ad : Addr) (c : Nat) (w : World) (h : MkP w bx bs m x v L) (hK : ∀ j u, (flatA K)[j]? = some u → w.cell? (ad.add j) = some u) (hn : L.length + K.length ≤ 100000) :
    Calls Tryd.prog 16 #[.pointer (some ⟨bx, 0, none⟩), .slice (some ad) K.length c] w fun e w' => e = .returned (.tuple #[]) ∧
      ∃ v', MkP w' bx bs m x v' (L ++ K) ∧ (∀ k, v'.ownBlock = some k → v.ownBlock = some k ∨ w.heap.size ≤ k) ∧ Upd (fun k => k = bx ∨ v.ownBlock = some k) w w' := by
  obtain ⟨v', w1, hrun, ho, hu, hv⟩ := run_append_acts w v L.length (flatA L) h.row ad K.length c (flatA K) (flatA_length K) hK (flatA_one K) hn
  obtain ⟨A0, c0, rfl⟩ := own_form h.row
  obtain ⟨A1, c1, rfl⟩ := own_form ho
  have cb := h.blk.cell
  have hne : ∀ k, (Value.slice A0 L.length c0).ownBlock = some k → k ≠ bx := fun k hk he => by subst he; exact own_blk_ne h.row h.blk (by decide) hk
  have hb1 := h.blk.upd hu fun he => hne _ he rfl
  have hs1 := h.seed.upd hu fun he => own_blk_ne h.row h.seed (by decide) he
  have f1 := hb1.frozen
  have c2 := hb1.cell
  have hset : Upd (· = bx) w1 (w1.setCell ⟨bx, 9, none⟩ (.slice A1 (L.length + K.length) c1)) := (Upd.refl (· = bx) w1).setCell (fun _ => rfl) _
  have HQ : Hid (MkP (w1.setCell ⟨bx, 9, none⟩ (.slice A1 (L.length + K.length) c1)) bx bs m x (.slice A1 (L.length + K.length) c1) (L ++ K) ∧ (∀ k, (Value.slice A1 (L.length + K.length) c1).ownBlock = some k → (Value.slice A0 L.length c0).ownBlock = some k ∨ w.heap.size ≤ k) ∧
      Upd (fun k => k = bx ∨ (Value.slice A0 L.length c0).ownBlock = some k) w (w1.setCell ⟨bx, 9, none⟩ (.slice A1 (L.length + K.length) c1))) := by
    refine ⟨⟨hb1.set_ 9 _, hs1.upd hset fun he => (h.blk.ne_ h.seed (by decide)) he.symm, ?_⟩, hv, ((hu.mono fun _ _ h => Or.inr h).trans hset fun _ _ h => Or.inl h)⟩
    rw [flatA_append, List.length_append]
    exact own_upd ho hset fun k hk he => by subst he; exact own_blk_ne ho hb1 (by decide) hk
  clear h hK hv ho hu hne hb1 hs1 hset
  go_enter Tryd.func16, Tryd.ntmps16
  go_wp2_with (at_builtin; refine wpList_append_run rfl _ _ _ rfl rfl rfl hrun ?_)
  go_end0
  exact ⟨rfl, _, HQ.out⟩
end Go.Proofs.YtlboobboacjnmaaDoor
