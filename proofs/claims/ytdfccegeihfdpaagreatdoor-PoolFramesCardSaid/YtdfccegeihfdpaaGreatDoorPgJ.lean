/-
  Contracts of layer 12: Unpin, own, Page, Change.
-/
import Derived.Test.YtdfccegeihfdpaaGreatDoorPgI
namespace Go.Proofs.YtdfccegeihfdpaaGreatDoor
open Go Go.RowKit

/-- What may be said of the frames' numbers. -/
structure PoB (T : PoS) : Prop where
  pages : T.pages ≤ 20
  most : T.most ≤ 20
  clock : T.clock ≤ 1000
  len : T.L.length ≤ T.most
  fr : ∀ q ∈ T.L, q.1.no < T.pages ∧ q.1.pins ≤ 1000 ∧ q.1.stamp ≤ 1000 ∧ q.1.pg.ok
theorem pinS_ok {T : PoS} {n : Int} {q : FrB} (h : pinS T n = .ok q) : q ∈ T.L ∧ (q.1.no : Int) = n ∧ q.1.pins ≠ 0 ∧ findF T.L n = some q := by
  unfold pinS at h
  split at h
  · split at h
    · split at h
      · cases h
      · rename_i r hf hp
        cases h
        exact ⟨(findF_some hf).1, (findF_some hf).2, hp, hf⟩
    · cases h
  · cases h
def unpinS (T : PoS) (n : Int) : PoS × Int := match pinS T n with
  | .error e => (T, e)
  | .ok q => ({ T with L := updF T.L { q.1 with pins := q.1.pins - 1 } }, 0)
/-- What a call of the pool leaves. -/
def PoP (bz P l : Nat) (p : DkP) (S' : LogS) (T' : PoS) (x : Int) (w : World) (e : Ending) (w' : World) : Prop := e = .returned (.int .i64 x) ∧ PoolAt bz w' P p l S' T' ∧ Upd (PoolF bz w) w w'
section
variable {w : World} {bz P l : Nat} {p : DkP} {S : LogS} {T : PoS}
theorem pinV_err {e : Int} : pinV (.error e) = .tuple #[.pointer none, .int .i64 e] := rfl
theorem pinV_ok {x : FrP} {b : Nat} : pinV (.ok (x, b)) = .tuple #[.pointer (some ⟨b, 0, none⟩), .int .i64 0] := rfl
theorem pin_err {T : PoS} {n e : Int} (h : pinS T n = .error e) : e = 121 ∨ e = 1 := by
  unfold pinS at h
  split at h
  · split at h
    · split at h
      · cases h; exact .inl rfl
      · cases h
    · cases h; exact .inl rfl
  · cases h; exact .inr rfl
set_option maxRecDepth 100000 in
set_option maxHeartbeats 2000000 in
theorem unpin_ok (h : PoolAt bz w P p l S T) (hB : PoB T) (n : Int) : Calls Tryz.prog 29 #[.pointer (some ⟨P, 0, none⟩), .int .i64 n] w (PoP bz P l p S (unpinS T n).1 (unpinS T n).2 w) := by
  have HPN := Lib.hid (pinned_ok h n)
  have HH := Lib.hid h
  cases hp : pinS T n with
  | error x =>
    have hx := pin_err hp
    have hxb : (x == 0) = false := by rcases hx with rfl | rfl <;> rfl
    have hu : unpinS T n = (T, x) := by unfold unpinS; rw [hp]
    rw [hp, pinV_err] at HPN
    rw [hu]
    clear h hx hp hu hB
    go_enter Tryz.func29, Tryz.ntmps29
    go_wp2_with fail
    refine HPN.out.mono ?_
    rintro e w1 ⟨rfl, rfl⟩
    go_wp2_with fail
    go_ret
    exact ⟨rfl, HH.out, Upd.refl _ _⟩
  | ok q =>
    obtain ⟨hq, hno, hpins, _⟩ := pinS_ok hp
    obtain ⟨x, b⟩ := q
    obtain ⟨A, c, f0, f1, f2, f3, f4, f5, f6, fz, hce⟩ := (h.fr _ hq).cells
    have hu : unpinS T n = ({ T with L := updF T.L { x with pins := x.pins - 1 } }, 0) := by unfold unpinS; rw [hp]
    rw [hp, pinV_ok] at HPN
    rw [hu]
    have hfr : FrAt (w.setCell ⟨b, 1, none⟩ (.int .i64 ((x.pins - 1 : Nat) : Int))) b { x with pins := x.pins - 1 } := (h.fr _ hq).set 1 _ rfl fun v => rfl
    have HF := Lib.hid (h.setFr hq (x := { x with pins := x.pins - 1 }) rfl (Upd.one w b 1 _) hfr)
    have HUP : Hid (Upd (PoolF bz w) w (w.setCell ⟨b, 1, none⟩ (.int .i64 ((x.pins - 1 : Nat) : Int)))) := Lib.hid ((Upd.refl _ w).setCell (p := ⟨b, 1, none⟩) (fun _ => h.frameF hq) _)
    have hbd := (hB.fr _ hq).2.1
    simp only at f1 hbd hpins
    have fz1 := fz 1
    have hsub : IntKind.i64.wrap ((x.pins : Int) - 1) = ((x.pins - 1 : Nat) : Int) := by rw [IntKind.wrap_i64]; omega
    have hsub2 : (x.pins : Int) - 1 = ((x.pins - 1 : Nat) : Int) := by omega
    obtain ⟨m, hm⟩ : ∃ m, x.pins - 1 = m := ⟨_, rfl⟩
    rw [hm] at HF HUP hsub hsub2
    have hp1 : (1 : Int) ≤ (x.pins : Int) := by omega
    have hp2 : (x.pins : Int) ≤ 1000 := by omega
    have HM := Lib.hid hm
    clear h hp hu hq hfr hbd hpins f0 f2 f3 f4 f5 f6 fz hce hm hB hno
    go_enter Tryz.func29, Tryz.ntmps29
    go_wp2_with fail
    refine HPN.out.mono ?_
    rintro e w1 ⟨rfl, rfl⟩
    go_wp2_with fail
    go_ret
    refine ⟨rfl, ?_, HUP.out⟩
    rw [HM.out]
    exact HF.out

set_option maxRecDepth 100000 in
set_option maxHeartbeats 2000000 in
theorem own_ok {w : World} {v : Value} {L : Cl} (h : CellsE w v L) (hl : L.length ≤ 1000) (lsn : Int) : Calls Tryz.prog 84 #[.agg #[.int .i64 lsn, v]] w fun e w' => ∃ A c, e = .returned (.agg #[.int .i64 lsn, .slice A L.length c]) ∧ OwnC w.heap.size w' (.slice A L.length c) L ∧ Upd Nowhere w w' := by
  obtain ⟨A, c, rfl, hcap⟩ := h.val
  have hz1 : (w.alloc (.cells #[.int .i64 lsn, .slice A L.length c] 72)).heap.size = w.heap.size + 1 := by simp
  have hu := ((Upd.refl Nowhere w).alloc (.cells #[.int .i64 lsn, .slice A L.length c] 72)).alloc (.cells #[.int .i64 0, .slice none 0 0] 72)
  have hB1 := (Blk.new w 72 #[.int .i64 lsn, .slice A L.length c]).alloc (.cells #[.int .i64 0, .slice none 0 0] 72)
  have hB2 := Blk.new' (w.alloc (.cells #[.int .i64 lsn, .slice A L.length c] 72)) 72 #[.int .i64 0, .slice none 0 0] hz1.symm
  have HC := Lib.hid (h.up hu)
  have HU := Lib.hid hu
  have HB2 := Lib.hid hB2
  obtain ⟨n, hn⟩ : ∃ n, L.length = n := ⟨_, rfl⟩
  have HN := Lib.hid hn
  rw [hn] at HC HU HB2 hB1 ⊢
  have c0 := hB1.cell 0
  have c1 := hB1.cell 1
  simp only [List.getElem?_toArray, List.getElem?_cons_zero, List.getElem?_cons_succ] at c0 c1
  have HL := Lib.hid hl
  clear h hz1 hu hB1 hB2 hn hl hcap
  go_enter Tryz.func84, Tryz.ntmps84
  go_wp2_with fail
  generalize (w.alloc (.cells #[.int .i64 lsn, .slice A n c] 72)).alloc (.cells #[.int .i64 0, .slice none 0 0] 72) = wA at *
  have dd : wA.drew.cell? ⟨w.heap.size, 0, none⟩ = some (.int .i64 lsn) ∧ wA.drew.cell? ⟨w.heap.size, 1, none⟩ = some (.slice A n c) := ⟨c0, c1⟩
  have hcc := cclone_ok (HC.out.up (Upd.refl Nowhere wA).drew) HL.out
  rw [HN.out] at hcc
  have HCC := Lib.hid hcc
  have hblt : w.heap.size < wA.drew.heap.size := by have := HB2.out.lt; simp at this ⊢; omega
  clear hcc c0 c1
  go_region_held3 (fun w' => w'.cell? ⟨w.heap.size, 0, none⟩ = some (.int .i64 lsn) ∧ w'.cell? ⟨w.heap.size, 1, none⟩ = some (.slice A n c)) (first | with_reducible exact dd | with_reducible exact k2 | with_reducible exact k3)
    (first
      | (go_at_call 133
         refine HCC.out.mono ?_
         rintro e w3 ⟨A3, c3, rfl, hO3, hU3⟩
         have k2 : w3.cell? ⟨w.heap.size, 0, none⟩ = some (.int .i64 lsn) ∧ w3.cell? ⟨w.heap.size, 1, none⟩ = some (.slice A n c) := ⟨(hU3.cell (p := ⟨w.heap.size, 0, none⟩) hblt id).trans dd.1, (hU3.cell (p := ⟨w.heap.size, 1, none⟩) hblt id).trans dd.2⟩
         have hus := (Upd.one w3 (w.heap.size + 1) 0 (.int .i64 lsn)).same (Upd.one _ (w.heap.size + 1) 1 (.slice A3 n c3))
         have hlt3 : w.heap.size < w3.heap.size := Nat.lt_of_lt_of_le hblt hU3.size
         have k3 : ((w3.setCell ⟨w.heap.size + 1, 0, none⟩ (.int .i64 lsn)).setCell ⟨w.heap.size + 1, 1, none⟩ (.slice A3 n c3)).cell? ⟨w.heap.size, 0, none⟩ = some (.int .i64 lsn) ∧ ((w3.setCell ⟨w.heap.size + 1, 0, none⟩ (.int .i64 lsn)).setCell ⟨w.heap.size + 1, 1, none⟩ (.slice A3 n c3)).cell? ⟨w.heap.size, 1, none⟩ = some (.slice A n c) := ⟨(hus.cell (p := ⟨w.heap.size, 0, none⟩) hlt3 (by simp only; omega)).trans k2.1, (hus.cell (p := ⟨w.heap.size, 1, none⟩) hlt3 (by simp only; omega)).trans k2.2⟩
         have hb3 := HB2.out.drew.upd hU3 id
         have q0 := hb3.frozen 0
         have q1 := hb3.frozen 1
         have g0 := hb3.cell 0
         have g1 := hb3.cell 1
         have HB3 := Lib.hid hb3
         have HO3 := Lib.hid hO3
         have HU3 := Lib.hid hU3
         simp only [List.getElem?_toArray, List.getElem?_cons_zero, List.getElem?_cons_succ] at g0 g1
         clear hb3 hO3 hU3))
  all_goals
    go_wp2_with fail
    have hbz := (HB3.out.set_ 0 (.int .i64 lsn)).set_ 1 (.slice A3 n c3)
    have s0 := hbz.cell 0
    have s1 := hbz.cell 1
    simp only [List.getElem?_toArray, List.getElem?_cons_zero, List.getElem?_cons_succ, List.setIfInBounds_toArray, List.set_cons_succ, List.set_cons_zero] at s0 s1
    have hnew : ∀ k, (Value.slice A3 n c3).ownBlock = some k → w.heap.size ≤ k ∧ k ≠ w.heap.size + 1 := fun k hk => by
      have h1 := HO3.out.new k hk
      have h2 := HB2.out.lt
      have h3 : wA.drew.heap.size = wA.heap.size := rfl
      omega
    have HOF := Lib.hid (((HO3.out.far fun k hk => (hnew k hk).1).upd (Upd.one _ (w.heap.size + 1) 0 (.int .i64 lsn)) fun k hk e => (hnew k hk).2 e).upd (Upd.one _ (w.heap.size + 1) 1 (.slice A3 n c3)) fun k hk e => (hnew k hk).2 e)
    have HUF := Lib.hid ((((HU.out.drew.same HU3.out)).setCell (p := ⟨w.heap.size + 1, 0, none⟩) (fun h => by simp only at h; omega) (.int .i64 lsn)).setCell (p := ⟨w.heap.size + 1, 1, none⟩) (fun h => by simp only at h; omega) (.slice A3 n c3))
    refine bodyPost_ret (v := .agg #[.int .i64 lsn, .slice A3 n c3]) (by simp [results, Tryz.results84, go_sem, s0, s1]) rfl ⟨A3, c3, rfl, ?_, HUF.out⟩
    exact HOF.out
end
end Go.Proofs.YtdfccegeihfdpaaGreatDoor
