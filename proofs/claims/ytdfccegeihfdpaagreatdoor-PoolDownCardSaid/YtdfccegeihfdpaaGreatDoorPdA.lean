/-
  A disk whose fuse burns down while a page is written back (plain Lean, no program in sight).
-/
import Derived.Test.YtdfccegeihfdpaaGreatDoorPoG
namespace Go.Proofs.YtdfccegeihfdpaaGreatDoor
open Go

/-- A disk that is as it should be, up or down. -/
structure BnD (j : Nat) (D : DiskS) : Prop where
  syn : ∀ n s, D.syn n = some s → s.length = 256
  now : ∀ n s, D.now n = some s → s.length = 256
  pend : ∀ x ∈ D.pend, x.2.length = 256
  len : D.pend.length ≤ j
  fuse : D.fuse ≤ 20
  sy : 0 ≤ D.syncs ∧ D.syncs ≤ 2 + (j : Int)
  size : D.size = 204
section
variable {D : DiskS} {j : Nat} {n : Int} {b p : Bs}
theorem BnD.mono (h : BnD j D) {i : Nat} (hi : j ≤ i) : BnD i D := ⟨h.syn, h.now, h.pend, Nat.le_trans h.len hi, h.fuse, ⟨h.sy.1, by have := h.sy.2; omega⟩, h.size⟩
theorem BnD.step (h : BnD j D) : BnD j D.step := by
  unfold DiskS.step
  split
  · exact ⟨h.syn, h.now, h.pend, h.len, h.fuse, h.sy, h.size⟩
  · refine ⟨h.syn, h.now, h.pend, h.len, ?_, h.sy, h.size⟩
    have := h.fuse
    show (if 0 < D.fuse then D.fuse - 1 else D.fuse) ≤ 20
    split <;> omega
theorem BnD.wrote (h : BnD j D) (hb : b.length = 256) : BnD (j + 1) (D.wrote n b) := by
  refine ⟨h.syn, fun k s hs => ?_, fun x hx => ?_, ?_, h.fuse, ⟨h.sy.1, by have := h.sy.2; show D.syncs ≤ _; omega⟩, h.size⟩
  · have hs : putF D.now n (some b) k = some s := hs
    unfold putF at hs
    split at hs
    · injection hs with hs; rw [← hs]; exact hb
    · exact h.now k s hs
  · rcases List.mem_append.1 (show x ∈ D.pend ++ [(n, b)] from hx) with hx | hx
    · exact h.pend x hx
    · rw [List.mem_singleton.1 hx]; exact hb
  · show (D.pend ++ [(n, b)]).length ≤ j + 1
    rw [List.length_append, List.length_singleton]
    have := h.len
    omega
theorem BnD.put (h : BnD j D) (hp : p.length ≤ 254) : BnD (j + 1) (D.put n p).1 := by
  unfold DiskS.put
  split
  · exact h.mono (by omega)
  · unfold DiskS.write
    split
    · exact h.step.mono (by omega)
    · exact h.step.wrote (wrapB_len _ hp)
theorem BnD.flushed (h : BnD j D) : BnD (j + 1) D.flushed := by
  refine ⟨fun k s hs => ?_, fun k s hs => (by cases hs), fun x hx => (by cases hx), Nat.zero_le _, h.fuse, ⟨?_, ?_⟩, h.size⟩
  · have hs : overF D.now D.syn k = some s := hs
    unfold overF at hs
    split at hs
    · rename_i s' e; injection hs with hs; rw [← hs]; exact h.now k s' e
    · exact h.syn k s hs
  · have := h.sy.1; show 0 ≤ D.syncs + 1; omega
  · have := h.sy.2; show D.syncs + 1 ≤ _; omega
theorem BnD.sync (h : BnD j D) : BnD (j + 1) D.sync.1 := by
  unfold DiskS.sync
  split
  · exact h.step.mono (by omega)
  · exact h.step.flushed
theorem BnD.read (h : BnD j D) (k : Int) : (D.read k).length = 256 := by
  unfold DiskS.read
  split
  · rename_i s e; exact h.now k s e
  · split
    · rename_i s e; exact h.syn k s e
    · exact List.length_replicate
theorem put_code (hd : D.down = false) (hf : 0 ≤ D.fuse) : (D.fuse = 0 ∧ D.put n p = ({ D with down := true }, 40)) ∨ (1 ≤ D.fuse ∧ D.put n p = (({ D with fuse := D.fuse - 1 } : DiskS).wrote n (wrapB (nextMark (D.read n)) p), 0)) := by
  unfold DiskS.put DiskS.write DiskS.step DiskS.gone
  rw [hd]
  by_cases h0 : D.fuse = 0
  · exact .inl ⟨h0, by simp [h0]⟩
  · refine .inr ⟨by omega, ?_⟩
    have h1 : 0 < D.fuse := by omega
    simp [h0, h1]
theorem sync_code (hd : D.down = false) (hf : 0 ≤ D.fuse) : (D.fuse = 0 ∧ D.sync = ({ D with down := true }, 40)) ∨ (1 ≤ D.fuse ∧ D.sync = (({ D with fuse := D.fuse - 1 } : DiskS).flushed, 0)) := by
  unfold DiskS.sync DiskS.step DiskS.gone
  rw [hd]
  by_cases h0 : D.fuse = 0
  · exact .inl ⟨h0, by simp [h0]⟩
  · refine .inr ⟨by omega, ?_⟩
    have h1 : 0 < D.fuse := by omega
    simp [h0, h1]
/-- A page put, and synced: by the fuse. -/
theorem save_code (hd : D.down = false) (hf : 0 ≤ D.fuse) (m t : Nat) (q : PgP) : (D.fuse < 2 ∧ (saveS D m t q).2 = 40 ∧ (saveS D m t q).1.down = true ∧ (saveS D m t q).1.syn = D.syn) ∨ (2 ≤ D.fuse ∧ (saveS D m t q).2 = 0 ∧ (saveS D m t q).1.down = false ∧ (saveS D m t q).1.syn = overF (putF D.now (slotN m t) (some (wrapB (nextMark (D.read (slotN m t))) (payB t q)))) D.syn) := by
  rcases put_code (n := slotN m t) (p := payB t q) hd hf with ⟨h1, h2⟩ | ⟨h1, h2⟩
  · have e : saveS D m t q = ({ D with down := true }, 40) := by unfold saveS; rw [h2]; rfl
    rw [e]
    exact .inl ⟨by omega, rfl, rfl, rfl⟩
  · have e : saveS D m t q = (({ D with fuse := D.fuse - 1 } : DiskS).wrote (slotN m t) (wrapB (nextMark (D.read (slotN m t))) (payB t q))).sync := by unfold saveS; rw [h2]; rfl
    rcases sync_code (D := ({ D with fuse := D.fuse - 1 } : DiskS).wrote (slotN m t) (wrapB (nextMark (D.read (slotN m t))) (payB t q))) hd (by show 0 ≤ D.fuse - 1; omega) with ⟨g1, g2⟩ | ⟨g1, g2⟩
    · have g1 : D.fuse - 1 = 0 := g1
      rw [e, g2]
      exact .inl ⟨by omega, rfl, rfl, rfl⟩
    · have g1 : 1 ≤ D.fuse - 1 := g1
      rw [e, g2]
      exact .inr ⟨by omega, rfl, hd, rfl⟩
/-- Force of one sheet: by the fuse. -/
theorem force_code {S : LogS} {s : SheetS} (hs : S.sheets S.pendB = [s]) (hne : S.forced ≠ S.items.length) (hd : S.dk.down = false) (hf : 0 ≤ S.dk.fuse) (hB : BnD j S.dk) (hl : s.enc.length ≤ 254) : BnD (j + 2) S.forceS.1.dk ∧ ((S.dk.fuse < 2 ∧ S.forceS.2 = 40 ∧ S.forceS.1.dk.down = true ∧ S.forceS.1.dk.syn = S.dk.syn) ∨ (2 ≤ S.dk.fuse ∧ S.forceS.2 = 0 ∧ S.forceS.1.dk.down = false ∧ S.forceS.1.dk.fuse = S.dk.fuse - 2)) := by
  have hb1 := hB.put (n := ((2 + s.pos.toNat % S.count : Nat) : Int)) hl
  have hb2 := hb1.sync
  rcases put_code (n := ((2 + s.pos.toNat % S.count : Nat) : Int)) (p := s.enc) hd hf with ⟨h1, h2⟩ | ⟨h1, h2⟩
  · have e : S.forceS = ({ S with dk := { S.dk with down := true }, down := true }, 40) := by
      unfold LogS.forceS
      rw [if_neg hne, hs]
      unfold putsGo
      rw [h2]
      rfl
    rw [h2] at hb1
    rw [e]
    exact ⟨hb1.mono (by omega), .inl ⟨by omega, rfl, rfl, rfl⟩⟩
  · rw [h2] at hb1 hb2
    have e1 : putsGo S.count [s] S.dk = (({ S.dk with fuse := S.dk.fuse - 1 } : DiskS).wrote ((2 + s.pos.toNat % S.count : Nat) : Int) (wrapB (nextMark (S.dk.read ((2 + s.pos.toNat % S.count : Nat) : Int))) s.enc), 0) := by
      unfold putsGo
      rw [h2]
      rfl
    rcases sync_code (D := ({ S.dk with fuse := S.dk.fuse - 1 } : DiskS).wrote ((2 + s.pos.toNat % S.count : Nat) : Int) (wrapB (nextMark (S.dk.read ((2 + s.pos.toNat % S.count : Nat) : Int))) s.enc)) hd (by show 0 ≤ S.dk.fuse - 1; omega) with ⟨g1, g2⟩ | ⟨g1, g2⟩
    · have g1 : S.dk.fuse - 1 = 0 := g1
      have e : S.forceS = ({ S with dk := { ({ S.dk with fuse := S.dk.fuse - 1 } : DiskS).wrote ((2 + s.pos.toNat % S.count : Nat) : Int) (wrapB (nextMark (S.dk.read ((2 + s.pos.toNat % S.count : Nat) : Int))) s.enc) with down := true }, down := true }, 40) := by
        unfold LogS.forceS
        rw [if_neg hne, hs, e1]
        simp only
        rw [if_neg (by simp), g2]
        rfl
      simp only at hb2
      rw [g2] at hb2
      rw [e]
      exact ⟨hb2, .inl ⟨by omega, rfl, rfl, rfl⟩⟩
    · have g1 : 1 ≤ S.dk.fuse - 1 := g1
      have e : S.forceS.2 = 0 ∧ S.forceS.1.dk = ({ ({ S.dk with fuse := S.dk.fuse - 1 } : DiskS).wrote ((2 + s.pos.toNat % S.count : Nat) : Int) (wrapB (nextMark (S.dk.read ((2 + s.pos.toNat % S.count : Nat) : Int))) s.enc) with fuse := S.dk.fuse - 1 - 1 } : DiskS).flushed := by
        unfold LogS.forceS
        rw [if_neg hne, hs, e1]
        simp only
        rw [if_neg (by simp), g2]
        exact ⟨rfl, rfl⟩
      simp only at hb2
      rw [g2] at hb2
      rw [e.2]
      exact ⟨hb2, .inr ⟨by omega, e.1, hd, by show S.dk.fuse - 1 - 1 = _; omega⟩⟩
theorem crashGo_none (l : List (Int × Bs)) : ∀ (n i : Nat) (f : Int → Option Bs), crashGo [] false 0 n i l f = f := by
  induction l with
  | nil => intro n i f; rfl
  | cons x l ih =>
    intro n i f
    obtain ⟨k, b⟩ := x
    have h : cutOf [] false 0 n i = 0 := by unfold cutOf; simp
    unfold crashGo
    rw [if_pos h, ih]
theorem crash_none (D : DiskS) : D.crash [] false 0 = ⟨D.size, D.syn, fun _ => none, [], -1, false, 0⟩ := by
  unfold DiskS.crash
  rw [crashGo_none]
theorem crash_quietS {k : Int} {x : Option Bs} (h : D.syn k = x) : Quiet (D.crash [] false 0) k x := by
  rw [crash_none]
  exact ⟨rfl, h⟩
end
theorem disk2_now (n : Nat) : (disk2 n).now = fun _ => none := by
  have h := (disk1_ok n).2
  have h2 := (h.put (mast2.gen % 2) (MastS.pay_small mast2_may)).2
  have he := h.put_eq (mast2.gen % 2) mast2.pay
  unfold disk2 DiskS.save
  rw [he] at h2 ⊢
  simp only at h2 ⊢
  rw [if_neg (by simp), h2.sync_eq]
  rfl
theorem disk2_bn (k : Int) (hk : k ≤ 20) : BnD 0 ({ disk2 204 with fuse := k } : DiskS) := by
  have h := (disk2_ok 204).2
  have hp : (disk2 204).pend = [] := List.eq_nil_of_length_eq_zero (Nat.le_zero.1 h.pend)
  refine ⟨fun n s hs => ?_, fun n s hs => ?_, fun x hx => ?_, ?_, hk, ⟨?_, ?_⟩, h.size⟩
  · have hs : (disk2 204).syn n = some s := hs
    have hr := h.read n
    unfold DiskS.read at hr
    rw [disk2_now, hs] at hr
    exact hr
  · have hs : (disk2 204).now n = some s := hs
    rw [disk2_now] at hs
    cases hs
  · have hx : x ∈ (disk2 204).pend := hx
    rw [hp] at hx
    cases hx
  · show (disk2 204).pend.length ≤ 0
    rw [hp]
    exact Nat.le_refl _
  · show 0 ≤ (disk2 204).syncs
    rw [h.syncs]
    omega
  · show (disk2 204).syncs ≤ _
    rw [h.syncs]
    omega
/-- What becomes of one page's change, by the fuse. -/
def DownR (k : Int) (x : FrP) (T : PoS) (R : (LogS × PoS) × Int) : Prop :=
  (k < 4 ∧ R.2 = 40 ∧ R.1.2 = T ∧ R.1.1.dk.down = true ∧ PlaceIs (R.1.1.dk.crash [] false 0) 0 (none, none) pg0 0) ∨
  (4 ≤ k ∧ R.2 = 0 ∧ R.1.2 = { T with L := updF T.L { x with stamp := x.stamp + 1, rc := 0 } } ∧ R.1.1.dk.down = false ∧ PlaceIs (R.1.1.dk.crash [] false 0) 0 (none, some (1, x.pg)) x.pg 1)
theorem down_flush {b : Bs} (hb : b.length ≤ 200) {k : Int} (hk0 : 0 ≤ k) (hk : k ≤ 20) {x : FrP} {T : PoS} (h1 : x.rc ≠ 0) (h2 : x.no = 0) (h3 : x.stamp = 0) (h4 : x.lsn = 1) (h5 : x.pg.ok) {S : LogS} (hS : S = ⟨{ disk2 204 with fuse := k }, 200, mast2, [(b, 0)], 0, 0, 0, false⟩) :
    BnD 2 S.forceS.1.dk ∧ BnD 6 (backS S T x).1.1.dk ∧ DownR k x T (backS S T x) := by
  have hD := disk2_bn k hk
  have hlen : (allB [b]).length = (sealO b).length := by rw [allB_cons, allB_nil, List.append_nil]
  have hpend : S.pendB = [b] := by rw [hS]; rfl
  have hpn : pagesN (layAll S.pendB).1.length = 1 := by
    rw [hpend, layAll_fst, hlen]
    have ha := sealO_pos b
    have hc : (sealO b).length ≤ 206 := by
      rw [← sealO_eq, sealB_len sumB_len]
      have := shortB_len_le (k := 1) (n := b.length) (by omega)
      omega
    unfold pagesN
    omega
  have hsh : S.sheets S.pendB = [pageAt S.m.inc.toNat S.next (layAll S.pendB) 0] := by
    unfold LogS.sheets layB
    rw [hpn]
    rfl
  have hq : ∀ m : Int, 202 ≤ m → Quiet S.dk m none := fun m hm => by
    have := disk2_quiet 204 m hm
    rw [hS]
    exact ⟨this.now, this.syn⟩
  have hdk : S.dk = { disk2 204 with fuse := k } := by rw [hS]
  have hfu : S.dk.fuse = k := by rw [hdk]
  have hdn : S.dk.down = false := by rw [hdk]; exact (disk2_ok 204).2.down
  rw [← hdk] at hD
  obtain ⟨hBF, hF⟩ := force_code hsh (by rw [hS]; simp) hdn (by rw [hfu]; exact hk0) hD (by
    rw [enc_len]
    unfold pageAt
    simp only [List.length_take]
    omega)
  have hqF : ∀ m : Int, 202 ≤ m → Quiet S.forceS.1.dk m none := fun m hm => LogS.quiet_force (hq m hm) (by rw [hS]; show 0 < 200; omega) (by rw [hS]; show 2 + ((200 : Nat) : Int) ≤ m; omega)
  have hfc : fcS S x = S.forceS := by
    unfold fcS LogS.lastF
    rw [if_pos]
    rw [h4, hS]
    show (1 : Int) + ((0 : Nat) : Int) - 1 < ((1 : Nat) : Int)
    omega
  rw [hfu] at hF
  refine ⟨hBF, ?_⟩
  unfold backS
  rw [if_neg h1, hfc]
  have n0 : slotN 0 0 = 202 := rfl
  have n1 : slotN 0 1 = 203 := rfl
  rcases hF with ⟨f1, f2, f3, f4⟩ | ⟨f1, f2, f3, f4⟩
  · rw [if_pos (by rw [f2]; decide)]
    exact ⟨hBF.mono (by omega), .inl ⟨by omega, f2, rfl, f3, ⟨crash_quietS (hqF _ (by decide)).syn, crash_quietS (hqF _ (by decide)).syn, rfl⟩⟩⟩
  · rw [if_neg (by rw [f2]; decide), h2, h3, show 0 + 1 = 1 from rfl]
    have hpl := payB_len (t := 1) (p := x.pg) (by decide) h5
    have hBS : BnD 6 (saveS S.forceS.1.dk 0 1 x.pg).1 := by
      unfold saveS
      split
      · exact (hBF.put (by omega)).mono (by omega)
      · exact (hBF.put (by omega)).sync.mono (by omega)
    have hq0 : (saveS S.forceS.1.dk 0 1 x.pg).1.syn (slotN 0 0) = none := ((hqF (slotN 0 0) (by decide)).save (by decide)).syn
    rcases save_code f3 (by omega) 0 1 x.pg with ⟨g1, g2, g3, g4⟩ | ⟨g1, g2, g3, g4⟩
    · rw [if_pos (by rw [g2]; decide)]
      refine ⟨hBS, .inl ⟨by omega, g2, rfl, g3, ⟨crash_quietS hq0, crash_quietS ?_, rfl⟩⟩⟩
      show (saveS S.forceS.1.dk 0 1 x.pg).1.syn _ = none
      rw [g4]
      exact (hqF _ (by decide)).syn
    · rw [if_neg (by rw [g2]; decide)]
      refine ⟨hBS, .inr ⟨by omega, rfl, by rw [h2, h3], g3, ⟨crash_quietS hq0, ⟨h5, by decide, by decide, _, (nextMark_ok (S.forceS.1.dk.read (slotN 0 1))).1, (nextMark_ok _).2.1, crash_quietS ?_⟩, ?_⟩⟩⟩
      · show (saveS S.forceS.1.dk 0 1 x.pg).1.syn _ = _
        rw [g4]
        show overF (putF _ (slotN 0 1) _) _ (slotN 0 1) = _
        unfold overF
        rw [putF_same]
      · rfl
end Go.Proofs.YtdfccegeihfdpaaGreatDoor
