/-
  PoolDown: the calls on a pool of one page and one frame, told exactly.
-/
import Derived.Test.YtdfccegeihfdpaaGreatDoorPdA
import Derived.Test.YtdfccegeihfdpaaGreatDoorPgZ
import Derived.Test.YtdfccegeihfdpaaGreatDoorPgV
import Derived.Test.YtdfccegeihfdpaaGreatDoorWvC
namespace Go.Proofs.YtdfccegeihfdpaaGreatDoor
open Go Go.RowKit

section
variable {bz P l d c fm : Nat} {w : World} {p : DkP} {S : LogS} {T : PoS} {M : DkM}
theorem begD {x : Nat} {w' : World} (hW : HalfW w) (h : BegP 1 1 w x w') : ∃ P l q d p fm, Blk w' x 65 #[.pointer (some ⟨d, 0, none⟩), .pointer (some ⟨l, 0, none⟩), .pointer (some ⟨P, 0, none⟩), .pointer (some ⟨q, 0, none⟩)] ∧ PSt w.heap.size P l d 0 1 1 0 w' p (pLog 1) ⟨1, 1, 0, fm, []⟩ (fun _ => (pg0, 0)) := by
  obtain ⟨P, l, q, fm, p, hb, hP, hR⟩ := h.ex
  exact ⟨P, l, q, p.d, p, fm, hb, ⟨hP, ⟨PLg.start 1, rfl, by omega, by show 1 ≤ 20; omega, Nat.le_refl _, Nat.le_refl _, Nat.zero_le _, List.nodup_nil, fun n hn => ⟨_, PlaceIs.fresh fun k hk => disk2_quiet _ k hk⟩, fun _ => Nat.le_refl _, fun _ => Nat.zero_le _, fun q hq => (by cases hq)⟩, hW.upd h.upd id, rfl, rfl⟩⟩
def fr1 : FrP := ⟨0, 1, 0, 0, 0, [], 1⟩
theorem fetchD (h : PSt bz P l d 0 1 1 0 w p (pLog 1) ⟨1, 1, 0, fm, []⟩ (fun _ => (pg0, 0))) : Calls Tryz.prog 23 #[.pointer (some ⟨P, 0, none⟩), .int .i64 0] w fun e w' => ∃ p' b, e = .returned (.int .i64 0) ∧ PSt bz P l d 0 1 1 4 w' p' (pLog 1) ⟨1, 1, 1, fm, [(fr1, b)]⟩ (fun _ => (pg0, 0)) ∧ Upd (PoolF bz w) w w' := by
  have hin : inT (⟨1, 1, 0, fm, []⟩ : PoS) ((0 : Nat) : Int) := ⟨by omega, by show ((0 : Nat) : Int) < ((1 : Nat) : Int); omega⟩
  have hf := fetch_ok h.at_ (h.inv.bounds (by omega)) (by show 0 + 1 ≤ 1000; omega) (h.inv.tick.keep (by omega)) h.half 0 hin pg0 0 pg0_ok (by omega) fun _ R hR h0 => by
    rcases hR with ⟨_, rfl⟩ | ⟨hl, _⟩ | ⟨hl, _⟩
    · have hd := (disk2_ok (202 + 2 * 1)).2
      exact ⟨hd.down, by show 204 + 2 * 0 ≤ (disk2 (202 + 2 * 1)).size; rw [hd.size]; omega, h.inv.place 0 (by omega)⟩
    · exact absurd (by show 0 < 1; omega) hl
    · exact absurd (by show 0 < 1; omega) hl
  rw [show ((0 : Nat) : Int) = 0 from rfl] at hf
  refine hf.mono ?_
  rintro e w' ⟨_, hB⟩
  obtain ⟨R, hR, _, hR2⟩ := hB rfl
  rcases hR with ⟨_, rfl⟩ | ⟨hl, _⟩ | ⟨hl, _⟩
  · obtain ⟨b, p', hpd, rfl, hP, hu⟩ := hR2 rfl
    have ha := h.inv.tick.add (by show 0 < 1; omega) (n := 0) (b := b) (by omega) rfl
    have hmem : (newFr 0 pg0 0, b) ∈ (addT (tickT (⟨1, 1, 0, fm, []⟩ : PoS)) (newFr 0 pg0 0) b).L := List.mem_append.2 (.inr (List.mem_singleton.2 rfl))
    have ht := ha.1.touch hmem
    exact ⟨p', b, rfl, ⟨hP, ht.1.mono (by omega), HalfW.pools h.at_.log.hz h.half hu, rfl, hpd.trans h.pd⟩, hu⟩
  · exact absurd (by show 0 < 1; omega) hl
  · exact absurd (by show 0 < 1; omega) hl
theorem appendD (h : PSt bz P l d 0 1 1 4 w p (pLog 1) T M) (key : Bs) (vh : Bool) (vd : Bs) (hk : CellOK (key, (vh, vd))) : Calls Tryz.prog 24 #[.pointer (some ⟨l, 0, none⟩), .agg (updA key vh vd), .int .i64 0] w fun e w' => e = .returned (.tuple #[.int .i64 1, .int .i64 0]) ∧ PSt bz P l d 0 1 1 5 w' p ((pLog 1).add (updP key vh vd).bytes) T M ∧ Upd (PoolF bz w) w w' := by
  have hb := updP_len hk
  have ha := append_ok h.at_.log (h.inv.lg.bounds h.inv.p20 (by omega)) (by omega) h.inv.lg.dwn h.half (enc_upd hk w) (by omega) (fun _ => dec_upd_any hk) 0 (by omega)
  rw [updA_eq] at ha
  have hr : (pLog 1).roomy (updP key vh vd).bytes 0 = true := by
    have hc : (sealO (updP key vh vd).bytes).length ≤ 206 := by
      rw [← sealO_eq, sealB_len sumB_len]
      have := shortB_len_le (k := 1) (n := (updP key vh vd).bytes.length) (by omega)
      omega
    unfold LogS.roomy LogS.need
    refine decide_eq_true ?_
    rw [show (pLog 1).pendB = [] from rfl, List.nil_append, layAll_fst, allB_cons, allB_nil, List.append_nil]
    show ((0 : Nat) : Int) - 0 + (pagesN (sealO (updP key vh vd).bytes).length : Nat) ≤ ((200 : Nat) : Int) - max 0 0
    have : pagesN (sealO (updP key vh vd).bytes).length ≤ 1 := by unfold pagesN; omega
    omega
  refine ha.mono ?_
  rintro e w' ⟨_, _, h3, hu⟩
  have hup := hu.log_pool
  obtain ⟨rfl, hL⟩ := h3 rfl hr
  exact ⟨rfl, ⟨h.at_.logs hL rfl hu, h.inv.append (by omega) hr, HalfW.pools h.at_.log.hz h.half hup, h.mst, h.pd⟩, hup⟩
def fr2 (key : Bs) (vh : Bool) (vd : Bs) : FrP := ⟨0, 1, 1, 0, 1, setC [] key (vh, vd), 1⟩
theorem changeD {b : Nat} (key : Bs) (vh : Bool) (vd : Bs) (hS : S.items.length = 1) (h : PSt bz P l d 0 1 1 5 w p S ⟨1, 1, 1, fm, [(fr1, b)]⟩ M) (hk : CellOK (key, (vh, vd))) : Calls Tryz.prog 25 #[.pointer (some ⟨P, 0, none⟩), .int .i64 0, .int .i64 1, strV key, .agg #[.bool vh, strV vd]] w fun e w' => e = .returned (.int .i64 0) ∧ PSt bz P l d 0 1 1 5 w' p S ⟨1, 1, 1, fm, [(fr2 key vh vd, b)]⟩ M ∧ Upd (PoolF bz w) w w' := by
  have hc := changeK h (by omega) (by omega) 0 1 (Nat.le_refl _) (by omega) key vh vd hk
  rw [show ((1 : Nat) : Int) = 1 from rfl] at hc
  exact hc
theorem fuseD (h : PSt bz P l d 0 1 1 c w p S T M) (k : Int) (hk : 0 ≤ k) : Calls Tryz.prog 42 #[.pointer (some ⟨d, 0, none⟩), .int .i64 k] w fun e w' => e = .returned (.tuple #[]) ∧ PoolAt bz w' P p l { S with dk := { S.dk with fuse := k } } T ∧ HalfW w' ∧ Upd (PoolF bz w) w w' := by
  have hf := fuse_ok h.at_.log.dk k hk
  rw [h.pd] at hf
  refine hf.mono ?_
  rintro e w' ⟨rfl, hD, hu⟩
  have hL := h.at_.log.disk rfl ⟨rfl, rfl⟩ hu hD h.at_.log.pf
  have hul := h.at_.log.foot hu
  exact ⟨rfl, h.at_.logs hL rfl hul, HalfW.pools h.at_.log.hz h.half hul.log_pool, hul.log_pool⟩
/-- What Flush leaves, by the fuse. -/
structure FluD (bz P l d : Nat) (k e : Int) (w' : World) (p : DkP) (S : LogS) (T : PoS) (x : FrP) (b : Nat) (q : PgP) (t : Nat) (s : Sl PgP × Sl PgP) : Prop where
  at_ : PoolAt bz w' P p l S T
  pd : p.d = d
  bnd : PoB T
  one : T.L = [(x, b)]
  bn : BnD 6 S.dk
  place : PlaceIs (S.dk.crash [] false 0) 0 s q t
  half : HalfW w'
  code : (k < 4 ∧ e = 40 ∧ x.rc ≠ 0 ∧ S.dk.down = true ∧ q.lsn = 0) ∨ (4 ≤ k ∧ e = 0 ∧ x.rc = 0 ∧ S.dk.down = false ∧ q.lsn = 1)
theorem BnD.dkc {j : Nat} {D : DiskS} (h : BnD j D) (hj : j ≤ 10) : DkC 0 D :=
  ⟨by have := h.fuse; omega, ⟨h.sy.1, by have := h.sy.2; omega⟩, by rw [h.size]; omega, h.read, by have := h.len; omega⟩
theorem setC_one (key : Bs) (v : Vl) : setC [] key v = [(key, v)] := rfl
theorem lb_one {S : LogS} {bs : Bs} (h1 : S.count = 200) (h2 : S.m = mast2) (h3 : S.items = [(bs, 0)]) (h4 : S.forced = 0) (h5 : S.next = 0) (h6 : S.forces = 0) (hb : bs.length ≤ 200) (hl : (layAll S.pendB).1.length ≤ 72600) (hD : BnD 0 S.dk) : LogB 2 S := by
  have h7 := hD.size
  have h8 := hD.fuse
  obtain ⟨h9, h10⟩ := hD.sy
  have h11 := hD.len
  refine ⟨by omega, by rw [h2]; decide, by rw [h2]; decide, by rw [h2]; simp only [mast2]; omega, by omega, by rw [h2]; decide, by rw [h2]; decide, by omega, by rw [h3]; simp, by omega, fun x hx => ?_, hl, by omega, by omega, by omega, hD.read, by omega⟩
  rw [h3] at hx
  rw [List.mem_singleton.1 hx]
  show bs.length ≤ 4096
  omega
theorem flushD {b : Nat} (key : Bs) (vh : Bool) (vd : Bs) (k : Int) (hk0 : 0 ≤ k) (hk2 : k ≤ 20) {bs : Bs} (hb : bs.length ≤ 200) (hpd : p.d = d) (h : PoolAt bz w P p l ⟨{ disk2 204 with fuse := k }, 200, mast2, [(bs, 0)], 0, 0, 0, false⟩ ⟨1, 1, 1, fm, [(fr2 key vh vd, b)]⟩) (hW : HalfW w) (hok : (fr2 key vh vd).pg.ok) : Calls Tryz.prog 43 #[.pointer (some ⟨P, 0, none⟩), .int .i64 0] w fun e w' => ∃ y p' S' T' x' b' q t s, e = .returned (.int .i64 y) ∧ FluD bz P l d k y w' p' S' T' x' b' q t s ∧ Upd (PoolF bz w) w w' := by
  obtain ⟨hF, hB, hR⟩ := down_flush (T := ⟨1, 1, 1, fm, [(fr2 key vh vd, b)]⟩) hb hk0 hk2 (x := fr2 key vh vd) (by show (1 : Nat) ≠ 0; omega) rfl rfl rfl hok rfl
  have hD := disk2_bn k hk2
  have hPB : PoB (⟨1, 1, 1, fm, [(fr2 key vh vd, b)]⟩ : PoS) := ⟨by show 1 ≤ 20; omega, by show 1 ≤ 20; omega, by show 1 ≤ 1000; omega, Nat.le_refl _, fun q hq => by
    obtain rfl := List.mem_singleton.1 hq
    exact ⟨by show 0 < 1; omega, by show 1 ≤ 1000; omega, by show 0 ≤ 1000; omega, hok⟩⟩
  have hlay : (layAll (LogS.pendB ⟨{ disk2 204 with fuse := k }, 200, mast2, [(bs, 0)], 0, 0, 0, false⟩)).1.length ≤ 72600 := by
    have hc : (sealO bs).length ≤ 206 := by
      rw [← sealO_eq, sealB_len sumB_len]
      have := shortB_len_le (k := 1) (n := bs.length) (by omega)
      omega
    rw [show LogS.pendB ⟨{ disk2 204 with fuse := k }, 200, mast2, [(bs, 0)], 0, 0, 0, false⟩ = [bs] from rfl, layAll_fst, allB_cons, allB_nil, List.append_nil]
    omega
  have hLB : LogB 2 (⟨{ disk2 204 with fuse := k }, 200, mast2, [(bs, 0)], 0, 0, 0, false⟩ : LogS) := lb_one rfl rfl rfl rfl rfl rfl hb hlay hD
  have hK : PoK (⟨{ disk2 204 with fuse := k }, 200, mast2, [(bs, 0)], 0, 0, 0, false⟩ : LogS) (⟨1, 1, 1, fm, [(fr2 key vh vd, b)]⟩ : PoS) :=
    ⟨⟨2, hLB, by omega⟩, rfl, fun q hq => by
      obtain rfl := List.mem_singleton.1 hq
      exact ⟨hD.dkc (by omega), hF.dkc (by omega)⟩⟩
  refine (flush_ok h hPB hK hW 0).mono ?_
  rintro e w' ⟨p', hpd', rfl, hP, hu⟩
  have hfl : flushS (⟨{ disk2 204 with fuse := k }, 200, mast2, [(bs, 0)], 0, 0, 0, false⟩ : LogS) (⟨1, 1, 1, fm, [(fr2 key vh vd, b)]⟩ : PoS) 0 = backS (⟨{ disk2 204 with fuse := k }, 200, mast2, [(bs, 0)], 0, 0, 0, false⟩ : LogS) (⟨1, 1, 1, fm, [(fr2 key vh vd, b)]⟩ : PoS) (fr2 key vh vd) := rfl
  rw [hfl] at hP ⊢
  have hW' := HalfW.pools h.log.hz hW hu
  generalize backS (⟨{ disk2 204 with fuse := k }, 200, mast2, [(bs, 0)], 0, 0, 0, false⟩ : LogS) (⟨1, 1, 1, fm, [(fr2 key vh vd, b)]⟩ : PoS) (fr2 key vh vd) = R at hP hB hR ⊢
  obtain ⟨⟨S', T'⟩, y⟩ := R
  simp only at hP hB
  rcases hR with ⟨r1, r2, r3, r4, r5⟩ | ⟨r1, r2, r3, r4, r5⟩
  · simp only at r2 r3 r4 r5
    subst r3
    exact ⟨y, p', S', _, _, b, _, _, _, rfl, ⟨hP, hpd'.trans hpd, hPB, rfl, hB, r5, hW', .inl ⟨r1, r2, by show (1 : Nat) ≠ 0; omega, r4, rfl⟩⟩, hu⟩
  · simp only at r2 r3 r4 r5
    subst r3
    refine ⟨y, p', S', _, { fr2 key vh vd with stamp := 1, rc := 0 }, b, _, _, _, rfl, ⟨hP, hpd'.trans hpd, ⟨by show 1 ≤ 20; omega, by show 1 ≤ 20; omega, by show 1 ≤ 1000; omega, Nat.le_refl _, fun q hq => ?_⟩, rfl, hB, r5, hW', .inr ⟨r1, r2, rfl, r4, rfl⟩⟩, hu⟩
    obtain rfl := List.mem_singleton.1 (show q ∈ [(({ fr2 key vh vd with stamp := 1, rc := 0 } : FrP), b)] from hq)
    exact ⟨by show 0 < 1; omega, by show 1 ≤ 1000; omega, by show 1 ≤ 1000; omega, hok⟩
/-- One frame alone is told. -/
theorem framesD {y k : Int} {x : FrP} {b : Nat} {q : PgP} {t : Nat} {s : Sl PgP × Sl PgP} (h : FluD bz P l d k y w p S T x b q t s) : Calls Tryz.prog 32 #[.pointer (some ⟨P, 0, none⟩)] w fun e w' => ∃ (g off cc : Nat), e = .returned (.slice (some ⟨g, off, none⟩) 1 cc) ∧ w'.cell? ⟨g, off + 2, none⟩ = some (.int .i64 (x.rc : Nat)) ∧ g < w'.heap.size ∧ Upd Nowhere w w' := by
  refine (frames_ok h.at_ h.bnd).mono ?_
  rintro e w' ⟨v, os, rfl, hF, hu⟩
  obtain ⟨B, hO⟩ := hF.own
  have h1 : ∀ o ∈ os, o.1 = x := fun o ho => by
    obtain ⟨r, hr, e⟩ := hF.of o ho
    rw [h.one] at hr
    rw [← e, List.mem_singleton.1 hr]
  obtain ⟨o, ho, e0⟩ := hF.mem (x, b) (by rw [h.one]; exact List.mem_singleton.2 rfl)
  have hl : os = [o] := by
    have hs := hF.sort
    unfold SortF at hs
    match os, ho, hs, h1 with
    | [a], ho, _, _ => rw [List.mem_singleton.1 ho]
    | a :: a2 :: L, _, hs, h1 =>
      rw [List.map_cons, List.map_cons, List.pairwise_cons] at hs
      have h2 := hs.1 a2.1.no (List.mem_cons_self ..)
      rw [h1 a (List.mem_cons_self ..), h1 a2 (List.mem_cons_of_mem _ (List.mem_cons_self ..))] at h2
      exact absurd h2 (Nat.lt_irrefl _)
  subst hl
  obtain ⟨g, off, cc, hv, hg, hc⟩ := hO.els.get frO_len (show [o][0]? = some o from rfl)
  have hc2 := hc 2 (by omega)
  rw [h1 o (List.mem_singleton.2 rfl)] at e0
  refine ⟨g, off, cc, by rw [hv]; rfl, ?_, hg, hu⟩
  have h3 : (frO o)[2]? = some (.int .i64 (o.1.rc : Nat)) := rfl
  rw [h1 o (List.mem_singleton.2 rfl)] at h3
  rw [show off + 2 = off + 0 * 6 + 2 by omega]
  exact hc2.trans h3
theorem downD {y k : Int} {x : FrP} {b : Nat} {q : PgP} {t : Nat} {s : Sl PgP × Sl PgP} (h : FluD bz P l d k y w p S T x b q t s) {w' : World} (hu : Upd Nowhere w w') : Calls Tryz.prog 44 #[.pointer (some ⟨d, 0, none⟩)] w' fun e w'' => e = .returned (.bool S.dk.down) ∧ w'' = w' := by
  have := down_ok (h.at_.up hu).log.dk
  rw [h.pd] at this
  exact this
theorem crashD {y k : Int} {x : FrP} {b : Nat} {q : PgP} {t : Nat} {s : Sl PgP × Sl PgP} (h : FluD bz P l d k y w p S T x b q t s) {w' : World} (hu : Upd Nowhere w w') : Calls Tryz.prog 13 #[.pointer (some ⟨d, 0, none⟩), .agg #[.slice none 0 0, .bool false, .int .i64 0]] w' fun e w'' => ∃ p', e = .returned (.pointer (some ⟨p'.d, 0, none⟩)) ∧ DiskAt w'' p' (S.dk.crash [] false 0) ∧ Upd Nowhere w' w'' := by
  have := crash_ok (h.at_.up hu).log.dk (keep := []) (kn := 0) rfl (OwnR.nil 3 (fun n : Int => [.int .i64 n]) 1 0 w').els (by omega) false 0 (by have := h.bn.len; omega) h.bn.pend h.bn.syn
  rw [h.pd] at this
  refine this.mono ?_
  rintro e w'' ⟨p', rfl, hD, hu', _⟩
  exact ⟨p', rfl, hD, hu'⟩
theorem loadD {y k : Int} {x : FrP} {b : Nat} {q : PgP} {t : Nat} {s : Sl PgP × Sl PgP} (h : FluD bz P l d k y w p S T x b q t s) {w' : World} {p' : DkP} (hD : DiskAt w' p' (S.dk.crash [] false 0)) : Calls Tryz.prog 33 #[.pointer (some ⟨p'.d, 0, none⟩), .int .i64 202, .int .i64 0] w' fun e w'' => ∃ A c, e = .returned (.tuple #[.agg #[.int .i64 (q.lsn : Nat), .slice A q.cells.length c], .int .i64 (t : Nat), .int .i64 0]) ∧ Upd Nowhere w' w'' := by
  have := sload_ok hD rfl 0 (by omega) (by show 204 + 2 * 0 ≤ (S.dk.crash [] false 0).size; rw [crash_none]; show 204 + 2 * 0 ≤ S.dk.size; rw [h.bn.size]; omega) h.place
  refine this.mono ?_
  rintro e w'' ⟨A, c, rfl, _, hu⟩
  exact ⟨A, c, rfl, hu⟩
end
end Go.Proofs.YtdfccegeihfdpaaGreatDoor
