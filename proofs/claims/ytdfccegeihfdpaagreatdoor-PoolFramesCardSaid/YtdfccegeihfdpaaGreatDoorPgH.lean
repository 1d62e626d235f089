/-
  Layer 12, memory: a pool, its frames, its log and its disk.
-/
import Derived.Test.YtdfccegeihfdpaaGreatDoorPgG
import Derived.Test.YtdfccegeihfdpaaGreatDoorPm5
import Derived.Test.YtdfccegeihfdpaaGreatDoorPoC
namespace Go.Proofs.YtdfccegeihfdpaaGreatDoor
open Go Go.RowKit

/-- A frame. -/
structure FrP where
  no : Nat
  pins : Nat
  rc : Nat
  stamp : Nat
  lsn : Nat
  cells : Cl
  at_ : Nat
def FrP.pg (x : FrP) : PgP := ⟨x.lsn, x.cells⟩
def frC (x : FrP) (v : Value) : Array Value := #[.int .i64 (x.no : Nat), .int .i64 (x.pins : Nat), .int .i64 (x.rc : Nat), .int .i64 (x.stamp : Nat), .int .i64 (x.lsn : Nat), v, .int .i64 (x.at_ : Nat)]
abbrev FrB := FrP × Nat
structure PoS where
  pages : Nat
  most : Nat
  clock : Nat
  fm : Nat
  L : List FrB
def findF (L : List FrB) (n : Int) : Option FrB := L.find? fun q => decide ((q.1.no : Int) = n)
def ptrF (q : FrB) : Value := .pointer (some ⟨q.2, 0, none⟩)
def frF (L : List FrB) (n : Int) : Option Value := (findF L n).map ptrF
def updF (L : List FrB) (x : FrP) : List FrB := L.map fun r => if r.1.no = x.no then (x, r.2) else r
def remF (L : List FrB) (n : Nat) : List FrB := L.filter fun r => decide (r.1.no ≠ n)
structure FrAt (w : World) (b : Nat) (x : FrP) : Prop where
  ex : ∃ A c, Blk w b 142 (frC x (.slice A x.cells.length c)) ∧ CellsE w (.slice A x.cells.length c) x.cells

def poolTy : Obj → Bool
  | .cells _ t _ => t == 120 || t == 148 || t == 107 || t == 111 || t == 139 || t == 142
  | .map .. => true
  | _ => false
/-- What a pool, its log and its disk are made of. -/
def PoolF (bz : Nat) (w : World) (k : Nat) : Prop := bz ≤ k ∧ ∃ o, w.heap[k]? = some o ∧ poolTy o = true
structure PoolAt (bz : Nat) (w : World) (P : Nat) (p : DkP) (l : Nat) (S : LogS) (T : PoS) : Prop where
  log : LogAt bz w l p S
  blk : Blk w P 139 #[.pointer (some ⟨p.d, 0, none⟩), .pointer (some ⟨l, 0, none⟩), .int .i64 202, .int .i64 (T.pages : Nat), .int .i64 (T.most : Nat), .int .i64 (T.clock : Nat), .map (some T.fm)]
  map : MapIs intK w T.fm (frF T.L)
  fr : ∀ q ∈ T.L, FrAt w q.2 q.1
  nd : (T.L.map (·.2)).Nodup
  nos : (T.L.map (·.1.no)).Nodup
  ge : ∀ q ∈ T.L, bz ≤ q.2
  fmge : bz + 3 ≤ T.fm
  hP : bz ≤ P

section
variable {F : Nat → Prop} {w w' a b c : World} {bz k : Nat}
theorem LogF.pool (h : LogF bz w k) : PoolF bz w k := by
  obtain ⟨h0, o, h1, h2⟩ := h
  refine ⟨h0, o, h1, ?_⟩
  cases o with
  | cells cs t fz =>
    have e : logTyM (decide (k < bz + 3)) (.cells cs t fz) = (t == 120 || t == 148 || t == 107 || t == 111) := rfl
    rw [e] at h2
    show (t == 120 || t == 148 || t == 107 || t == 111 || t == 139 || t == 142) = true
    rw [h2]
    rfl
  | map es ck => rfl
  | _ => cases h2
theorem PoolF.upd (h : PoolF bz w' k) (hk : k < w.heap.size) (hu : Upd F w w') (hF : ¬ F k) : PoolF bz w k := by
  obtain ⟨h0, o, h1, h2⟩ := h
  exact ⟨h0, o, (hu.block k hk hF) ▸ h1, h2⟩
theorem Upd.pools (h : Upd (PoolF bz a) a b) (h' : Upd (PoolF bz b) b c) : Upd (PoolF bz a) a c :=
  h.trans h' fun _ hk hb => Classical.byContradiction fun hn => hn (hb.upd hk h hn)
theorem Upd.log_pool (h : Upd (LogF bz w) w w') : Upd (PoolF bz w) w w' := h.mono fun _ _ hk => hk.pool
theorem PoolF.noU8 (w : World) : NoU8 (PoolF bz w) w := by
  rintro k ⟨_, o, h1, h2⟩ ⟨cs, fz, h3⟩
  rw [h1] at h3
  injection h3 with h3
  subst h3
  rw [show poolTy (.cells cs 5 fz) = false from rfl] at h2
  cases h2
theorem PoolF.noC (w : World) : NoC (PoolF bz w) w := by
  rintro k ⟨_, o, h1, h2⟩ ⟨cs, fz, h3⟩
  rw [h1] at h3
  injection h3 with h3
  subst h3
  rw [show poolTy (.cells cs 155 fz) = false from rfl] at h2
  cases h2
theorem Blk.noPool {g t : Nat} {cs : Array Value} (h : Blk w g t cs) (ht : poolTy (.cells cs t (0, 0)) = false) : ¬ PoolF bz w g := by
  rintro ⟨_, o, h1, h2⟩
  have h' : w.heap[g]? = some (.cells cs t (0, 0)) := h
  rw [h'] at h1
  injection h1 with h1
  subst h1
  rw [ht] at h2
  cases h2
theorem LogF.noC (w : World) : NoC (LogF bz w) w := fun _ hk => PoolF.noC w _ hk.pool
end

section
variable {F : Nat → Prop} {w w' : World} {bz P l : Nat} {p p' : DkP} {S S' : LogS} {T : PoS}
theorem FrAt.upd {b : Nat} {x : FrP} (h : FrAt w b x) (hu : Upd F w w') (hb : ¬ F b) (hC : NoC F w) : FrAt w' b x := by
  obtain ⟨A, c, h1, h2⟩ := h.ex
  exact ⟨A, c, h1.upd hu hb, h2.upd hu hC⟩
namespace PoolAt
theorem poolF (h : PoolAt bz w P p l S T) : PoolF bz w P := ⟨h.hP, _, h.blk, rfl⟩
theorem fmF (h : PoolAt bz w P p l S T) : PoolF bz w T.fm := by
  obtain ⟨es, ck, h1, _⟩ := h.map
  exact ⟨by have := h.fmge; omega, _, h1, rfl⟩
theorem frameF (h : PoolAt bz w P p l S T) {q : FrB} (hq : q ∈ T.L) : PoolF bz w q.2 := by
  obtain ⟨A, c, h1, _⟩ := (h.fr q hq).ex
  exact ⟨h.ge q hq, _, h1, rfl⟩
theorem upd (h : PoolAt bz w P p l S T) (hu : Upd F w w') (hF : ∀ k, F k → ¬ PoolF bz w k) (h8 : NoU8 F w) (hC : NoC F w) : PoolAt bz w' P p l S T :=
  ⟨h.log.upd hu (fun k hk hl => hF k hk hl.pool) h8, h.blk.upd hu fun e => hF _ e h.poolF, h.map.upd hu fun e => hF _ e h.fmF, fun q hq => (h.fr q hq).upd hu (fun e => hF _ e (h.frameF hq)) hC, h.nd, h.nos, h.ge, h.fmge, h.hP⟩
theorem up (h : PoolAt bz w P p l S T) (hu : Upd Nowhere w w') : PoolAt bz w' P p l S T := h.upd hu (fun _ e => absurd e id) (fun _ e => absurd e id) (NoC.nowhere w)
/-- The log, or its disk, is changed. -/
theorem logs (h : PoolAt bz w P p l S T) (hL : LogAt bz w' l p' S') (hd : p'.d = p.d) (hu : Upd (LogF bz w) w w') : PoolAt bz w' P p' l S' T := by
  refine ⟨hL, by rw [hd]; exact h.blk.upd hu (h.blk.noLog rfl), h.map.upd hu ?_, fun q hq => (h.fr q hq).upd hu ?_ (LogF.noC w), h.nd, h.nos, h.ge, h.fmge, h.hP⟩
  · rintro ⟨_, o, h1, h2⟩
    obtain ⟨es, ck, h3, _⟩ := h.map
    rw [h3] at h1
    injection h1 with h1
    subst h1
    have := h.fmge
    have h4 : T.fm < bz + 3 := of_decide_eq_true h2
    omega
  · obtain ⟨A, c, h1, _⟩ := (h.fr q hq).ex
    exact h1.noLog rfl
theorem P_ne (h : PoolAt bz w P p l S T) {q : FrB} (hq : q ∈ T.L) : P ≠ q.2 := by
  obtain ⟨A, c, h1, _⟩ := (h.fr q hq).ex
  exact h.blk.ne_ h1 (by decide)
theorem fm_ne (h : PoolAt bz w P p l S T) {q : FrB} (hq : q ∈ T.L) : T.fm ≠ q.2 := by
  obtain ⟨A, c, h1, _⟩ := (h.fr q hq).ex
  exact h.map.ne_blk h1
/-- The pool's own box is changed. -/
theorem setBox (h : PoolAt bz w P p l S T) (i : Nat) (u : Value) {T' : PoS} (h1 : T'.fm = T.fm) (h2 : T'.L = T.L) (hc : (#[.pointer (some ⟨p.d, 0, none⟩), .pointer (some ⟨l, 0, none⟩), .int .i64 202, .int .i64 (T.pages : Nat), .int .i64 (T.most : Nat), .int .i64 (T.clock : Nat), .map (some T.fm)] : Array Value).setIfInBounds i u = #[.pointer (some ⟨p.d, 0, none⟩), .pointer (some ⟨l, 0, none⟩), .int .i64 202, .int .i64 (T'.pages : Nat), .int .i64 (T'.most : Nat), .int .i64 (T'.clock : Nat), .map (some T'.fm)]) : PoolAt bz (w.setCell ⟨P, i, none⟩ u) P p l S T' := by
  have hu := Upd.one w P i u
  have hb := h.blk.set_ i u
  rw [hc] at hb
  refine ⟨h.log.upd hu (fun k e hl => ?_) (noU8_blk h.blk (by decide)), hb, by rw [h1, h2]; exact h.map.upd hu (h.map.ne_blk h.blk), by rw [h2]; exact fun q hq => (h.fr q hq).upd hu (fun e => h.P_ne hq e.symm) (noC_blk h.blk (by decide)), by rw [h2]; exact h.nd, by rw [h2]; exact h.nos, by rw [h2]; exact h.ge, by rw [h1]; exact h.fmge, h.hP⟩
  subst e
  exact h.blk.noLog rfl hl
end PoolAt
theorem updF_nos (L : List FrB) (x : FrP) : (updF L x).map (·.1.no) = L.map (·.1.no) := by
  unfold updF
  rw [List.map_map]
  refine List.map_congr_left fun r _ => ?_
  simp only [Function.comp]
  split
  · rename_i h; exact h.symm
  · rfl
theorem updF_bs (L : List FrB) (x : FrP) : (updF L x).map (·.2) = L.map (·.2) := by
  unfold updF
  rw [List.map_map]
  refine List.map_congr_left fun r _ => ?_
  simp only [Function.comp]
  split <;> rfl
theorem updF_mem {L : List FrB} {x : FrP} {r : FrB} (h : r ∈ updF L x) : ∃ r0 ∈ L, r.2 = r0.2 ∧ (r0.1.no = x.no ∧ r.1 = x ∨ r0.1.no ≠ x.no ∧ r = r0) := by
  unfold updF at h
  obtain ⟨r0, h0, rfl⟩ := List.mem_map.1 h
  refine ⟨r0, h0, ?_⟩
  by_cases hn : r0.1.no = x.no
  · rw [if_pos hn]; exact ⟨rfl, .inl ⟨hn, rfl⟩⟩
  · rw [if_neg hn]; exact ⟨rfl, .inr ⟨hn, rfl⟩⟩
theorem frF_upd (L : List FrB) (x : FrP) (n : Int) : frF (updF L x) n = frF L n := by
  unfold frF findF updF
  induction L with
  | nil => rfl
  | cons r L ih =>
    rw [List.map_cons]
    by_cases hn : r.1.no = x.no
    · rw [if_pos hn]
      by_cases he : (r.1.no : Int) = n
      · rw [List.find?_cons_of_pos (by simpa [← hn] using he), List.find?_cons_of_pos (by simpa using he)]; rfl
      · rw [List.find?_cons_of_neg (by simpa [← hn] using he), List.find?_cons_of_neg (by simpa using he)]; exact ih
    · rw [if_neg hn]
      by_cases he : (r.1.no : Int) = n
      · rw [List.find?_cons_of_pos (by simpa using he), List.find?_cons_of_pos (by simpa using he)]
      · rw [List.find?_cons_of_neg (by simpa using he), List.find?_cons_of_neg (by simpa using he)]; exact ih
theorem findF_some {L : List FrB} {n : Int} {q : FrB} (h : findF L n = some q) : q ∈ L ∧ (q.1.no : Int) = n := ⟨List.mem_of_find?_eq_some h, by simpa using List.find?_some h⟩
theorem findF_none {L : List FrB} {n : Int} (h : findF L n = none) : ∀ q ∈ L, (q.1.no : Int) ≠ n := fun q hq => by simpa using List.find?_eq_none.1 h q hq
theorem nos_inj {L : List FrB} (h : (L.map (·.1.no)).Nodup) {q r : FrB} (hq : q ∈ L) (hr : r ∈ L) (e : q.1.no = r.1.no) : q = r := by
  obtain ⟨i, hi, ei⟩ := List.getElem_of_mem hq
  obtain ⟨j, hj, ej⟩ := List.getElem_of_mem hr
  have : i = j := (List.getElem_inj (xs := L.map (·.1.no)) (h₀ := by simpa using hi) (h₁ := by simpa using hj) h).1 (by simp [ei, ej, e])
  subst this
  rw [← ei, ← ej]
theorem bs_inj {L : List FrB} (h : (L.map (·.2)).Nodup) {q r : FrB} (hq : q ∈ L) (hr : r ∈ L) (e : q.2 = r.2) : q = r := by
  obtain ⟨i, hi, ei⟩ := List.getElem_of_mem hq
  obtain ⟨j, hj, ej⟩ := List.getElem_of_mem hr
  have : i = j := (List.getElem_inj (xs := L.map (·.2)) (h₀ := by simpa using hi) (h₁ := by simpa using hj) h).1 (by simp [ei, ej, e])
  subst this
  rw [← ei, ← ej]
theorem findF_of {L : List FrB} (h : (L.map (·.1.no)).Nodup) {q : FrB} (hq : q ∈ L) : findF L q.1.no = some q := by
  cases hf : findF L q.1.no with
  | none => exact absurd rfl (findF_none hf q hq)
  | some r =>
    obtain ⟨hr, he⟩ := findF_some hf
    rw [nos_inj h hr hq (by omega)]
/-- A frame is changed. -/
theorem PoolAt.setFr (h : PoolAt bz w P p l S T) {q : FrB} (hq : q ∈ T.L) {x : FrP} (hn : x.no = q.1.no) (hu : Upd (fun k => k = q.2) w w') (hx : FrAt w' q.2 x) : PoolAt bz w' P p l S { T with L := updF T.L x } := by
  obtain ⟨A, c, h1, _⟩ := (h.fr q hq).ex
  refine ⟨h.log.upd hu (fun k e hl => ?_) (noU8_blk h1 (by decide)), h.blk.upd hu (h.P_ne hq), (h.map.upd hu (h.fm_ne hq)).congr fun n => (frF_upd T.L x n).symm, fun r hr => ?_, ?_, ?_, fun r hr => ?_, h.fmge, h.hP⟩
  · subst e
    exact h1.noLog rfl hl
  · obtain ⟨r0, h0, e2, hc⟩ := updF_mem hr
    rw [e2]
    rcases hc with ⟨hno, e1⟩ | ⟨hno, e1⟩
    · have : r0 = q := nos_inj h.nos h0 hq (by rw [hno, hn])
      rw [this, e1]
      exact hx
    · rw [e1]
      exact (h.fr r0 h0).upd hu (fun e => hno (by rw [bs_inj h.nd h0 hq e, hn])) (noC_blk h1 (by decide))
  · show ((updF T.L x).map (·.2)).Nodup
    rw [updF_bs]; exact h.nd
  · show ((updF T.L x).map (·.1.no)).Nodup
    rw [updF_nos]; exact h.nos
  · obtain ⟨r0, h0, e2, _⟩ := updF_mem hr
    rw [e2]
    exact h.ge r0 h0
theorem FrAt.set {bl : Nat} {x x' : FrP} (h : FrAt w bl x) (j : Nat) (u : Value) (hc : x'.cells = x.cells) (he : ∀ v, (frC x v).setIfInBounds j u = frC x' v) : FrAt (w.setCell ⟨bl, j, none⟩ u) bl x' := by
  obtain ⟨A, c, h1, h2⟩ := h.ex
  refine ⟨A, c, ?_, ?_⟩
  · have := h1.set_ j u
    rw [he] at this
    rw [hc]
    exact this
  · rw [hc]
    exact h2.upd (Upd.one w bl j u) (noC_blk h1 (by decide))
end
end Go.Proofs.YtdfccegeihfdpaaGreatDoor
