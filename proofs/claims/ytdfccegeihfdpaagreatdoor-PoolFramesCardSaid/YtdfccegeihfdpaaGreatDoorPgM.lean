/-
  Contracts of layer 12: Flush, Evict; a frame is taken out.
-/
import Derived.Test.YtdfccegeihfdpaaGreatDoorPgL
namespace Go.Proofs.YtdfccegeihfdpaaGreatDoor
open Go Go.RowKit

/-- What a pool's calls that may write ask of its log and its disk. -/
structure PoK (S : LogS) (T : PoS) : Prop where
  ex : ∃ k, LogB k S ∧ k ≤ 70
  down : S.down = false
  dk : ∀ q ∈ T.L, DkC q.1.no S.dk ∧ DkC q.1.no S.forceS.1.dk
/-- A frame is written back, and taken. -/
def evS (S : LogS) (T : PoS) (q : FrB) : (LogS × PoS) × Int :=
  if (backS S T q.1).2 = 0 then (((backS S T q.1).1.1, { (backS S T q.1).1.2 with L := remF (backS S T q.1).1.2.L q.1.no }), 0) else backS S T q.1
def flushS (S : LogS) (T : PoS) (n : Int) : (LogS × PoS) × Int := if inT T n then match findF T.L n with
  | some q => backS S T q.1
  | none => ((S, T), 0)
  else ((S, T), 1)
def evictS (S : LogS) (T : PoS) (n : Int) : (LogS × PoS) × Int := if inT T n then match findF T.L n with
  | some q => if q.1.pins = 0 then evS S T q else ((S, T), 121)
  | none => ((S, T), 0)
  else ((S, T), 1)
theorem findF_rem (L : List FrB) (n : Nat) (m : Int) : findF (remF L n) m = if m = (n : Int) then none else findF L m := by
  unfold findF remF
  induction L with
  | nil => split <;> rfl
  | cons r L ih =>
    by_cases h : r.1.no = n
    · rw [List.filter_cons_of_neg (by simpa using h), ih]
      split
      · rfl
      · rename_i hm
        rw [List.find?_cons_of_neg (by simp; omega)]
    · rw [List.filter_cons_of_pos (by simpa using h)]
      by_cases hm : (r.1.no : Int) = m
      · rw [List.find?_cons_of_pos (by simpa using hm), List.find?_cons_of_pos (by simpa using hm), if_neg (by omega)]
      · rw [List.find?_cons_of_neg (by simpa using hm), List.find?_cons_of_neg (by simpa using hm), ih]
theorem frF_rem (L : List FrB) (n : Nat) : putF (frF L) (n : Int) none = frF (remF L n) := by
  funext m
  unfold frF putF
  rw [findF_rem]
  split <;> rfl
section
variable {w : World} {bz P l : Nat} {p : DkP} {S : LogS} {T : PoS}
theorem PoolAt.fm_upd (h : PoolAt bz w P p l S T) {w' : World} (hu : Upd (fun k => k = T.fm) w w') {L' : List FrB} (hm : MapIs intK w' T.fm (frF L')) (hs : ∀ q ∈ L', FrAt w q.2 q.1 ∧ bz ≤ q.2) (hn1 : (L'.map (·.2)).Nodup) (hn2 : (L'.map (·.1.no)).Nodup) : PoolAt bz w' P p l S { T with L := L' } := by
  have hmap := h.map
  obtain ⟨es, ck, h3, _⟩ := hmap
  refine ⟨h.log.upd hu (fun k e hl => ?_) (fun k e h8 => ?_), h.blk.upd hu fun e => h.map.ne_blk h.blk e.symm, hm, fun q hq => (hs q hq).1.upd hu (fun e => ?_) fun k e hc => ?_, hn1, hn2, fun q hq => (hs q hq).2, h.fmge, h.hP⟩
  · subst e
    obtain ⟨_, o, h1, h2⟩ := hl
    rw [h3] at h1
    injection h1 with h1
    subst h1
    have := h.fmge
    have h4 : T.fm < bz + 3 := of_decide_eq_true h2
    omega
  · subst e
    exact h.map.notU8 h8
  · obtain ⟨_, _, hb, _⟩ := (hs q hq).1.ex
    exact h.map.ne_blk hb e.symm
  · subst e
    obtain ⟨cs, fz, hc⟩ := hc
    exact h.map.not_cells hc
theorem PoolAt.rem (h : PoolAt bz w P p l S T) (n : Nat) : ∃ w', (∀ ty, (Builtin.delete_ #[137, 3] ty #[.map (some T.fm), .int .i64 (n : Nat)]).run Tryz.prog w = .ok (.tuple #[]) w') ∧ PoolAt bz w' P p l S { T with L := remF T.L n } ∧ Upd (PoolF bz w) w w' := by
  have key : ∀ ty, ∃ w', (Builtin.delete_ #[137, 3] ty #[.map (some T.fm), .int .i64 (n : Nat)]).run Tryz.prog w = .ok (.tuple #[]) w' ∧ MapIs intK w' T.fm (putF (frF T.L) (n : Int) none) ∧ w.grownBy w' (some T.fm) ∧ w'.heap.size = w.heap.size := fun ty => h.map.del keyI (ts := #[137, 3]) rfl Tryz.underlying137 Tryz.underlying3 (n : Int)
  obtain ⟨w', hr, hm, hg, _⟩ := key 3
  have hall : ∀ ty, (Builtin.delete_ #[137, 3] ty #[.map (some T.fm), .int .i64 (n : Nat)]).run Tryz.prog w = .ok (.tuple #[]) w' := fun ty => hr
  have hu : Upd (fun k => k = T.fm) w w' := ⟨hg.os, hg.tape, hg.output, hg.size, fun k hk hn => hg.block k hk fun e => hn (by injection e)⟩
  rw [frF_rem] at hm
  have hsub : List.Sublist (remF T.L n) T.L := List.filter_sublist
  exact ⟨w', hall, h.fm_upd hu hm (fun q hq => ⟨h.fr q (hsub.mem hq), h.ge q (hsub.mem hq)⟩) ((hsub.map _).nodup h.nd) ((hsub.map _).nodup h.nos), hu.mono fun k _ e => e ▸ h.fmF⟩
set_option maxRecDepth 100000 in
set_option maxHeartbeats 4000000 in
theorem flush_ok (h : PoolAt bz w P p l S T) (hT : PoB T) (hK : PoK S T) (hW : HalfW w) (n : Int) : Calls Tryz.prog 43 #[.pointer (some ⟨P, 0, none⟩), .int .i64 n] w (PwP bz P l p (flushS S T n) w) := by
  have HIS := Lib.hid (is_ok h n)
  have HH := Lib.hid h
  have hFS : flushS S T n = if inT T n then match findF T.L n with
    | some q => backS S T q.1
    | none => ((S, T), 0)
    else ((S, T), 1) := rfl
  by_cases hin : inT T n
  · rw [if_pos hin] at hFS
    rw [if_pos hin] at HIS
    have c6 := h.blk.cell 6
    simp only [List.getElem?_toArray, List.getElem?_cons_zero, List.getElem?_cons_succ] at c6
    have hlk := h.look n
    cases hf : findF T.L n with
    | none =>
      rw [hf] at hlk hFS
      simp only at hlk hFS
      rw [hFS]
      have HLK := Lib.hid hlk
      clear h hT hK hW hFS hin hlk hf
      go_enter Tryz.func43, Tryz.ntmps43
      go_wp2_with fail
      refine HIS.out.mono ?_
      rintro e w1 ⟨rfl, rfl⟩
      go_wp2_with (refine wpList_lookup_run rfl _ _ _ _ rfl rfl rfl HLK.out ?_)
      go_ret
      exact ⟨p, rfl, rfl, HH.out, Upd.refl _ _⟩
    | some q =>
      rw [hf] at hlk hFS
      simp only at hlk hFS
      rw [hFS]
      have HLK := Lib.hid hlk
      have hq := (findF_some hf).1
      obtain ⟨k, hB, hk⟩ := hK.ex
      have HBK := Lib.hid (back_ok h hT hB hk hK.down hW hq (hK.dk q hq).1 (hK.dk q hq).2)
      unfold ptrF at HLK HBK
      obtain ⟨R, hR⟩ : ∃ R, backS S T q.1 = R := ⟨_, rfl⟩
      rw [hR] at HBK ⊢
      obtain ⟨b, hb⟩ : ∃ b, q.2 = b := ⟨_, rfl⟩
      rw [hb] at HLK HBK
      clear h hT hK hW hFS hin hlk hf hq hB hk hR hb
      go_enter Tryz.func43, Tryz.ntmps43
      go_wp2_with fail
      refine HIS.out.mono ?_
      rintro e w1 ⟨rfl, rfl⟩
      go_wp2_with (refine wpList_lookup_run rfl _ _ _ _ rfl rfl rfl HLK.out ?_)
      refine HBK.out.mono ?_
      rintro e w2 ⟨p2, hpd, rfl, hP2, hU2⟩
      have HX := Lib.hid (show p2.d = p.d ∧ PoolAt bz w2 P p2 l R.1.1 R.1.2 ∧ Upd (PoolF bz w1) w1 w2 from ⟨hpd, hP2, hU2⟩)
      clear hpd hP2 hU2
      go_wp2_with fail
      go_ret
      exact ⟨p2, HX.out.1, rfl, HX.out.2.1, HX.out.2.2⟩
  · rw [if_neg hin] at hFS
    rw [if_neg hin] at HIS
    rw [hFS]
    clear h hT hK hW hFS hin
    go_enter Tryz.func43, Tryz.ntmps43
    go_wp2_with fail
    refine HIS.out.mono ?_
    rintro e w1 ⟨rfl, rfl⟩
    go_wp2_with fail
    go_ret
    exact ⟨p, rfl, rfl, HH.out, Upd.refl _ _⟩
set_option maxRecDepth 100000 in
set_option maxHeartbeats 4000000 in
theorem evict_ok (h : PoolAt bz w P p l S T) (hT : PoB T) (hK : PoK S T) (hW : HalfW w) (n : Int) : Calls Tryz.prog 30 #[.pointer (some ⟨P, 0, none⟩), .int .i64 n] w (PwP bz P l p (evictS S T n) w) := by
  have HIS := Lib.hid (is_ok h n)
  have HH := Lib.hid h
  have hFS : evictS S T n = if inT T n then match findF T.L n with
    | some q => if q.1.pins = 0 then evS S T q else ((S, T), 121)
    | none => ((S, T), 0)
    else ((S, T), 1) := rfl
  by_cases hin : inT T n
  · rw [if_pos hin] at hFS
    rw [if_pos hin] at HIS
    have c6 := h.blk.cell 6
    simp only [List.getElem?_toArray, List.getElem?_cons_zero, List.getElem?_cons_succ] at c6
    have hlk := h.look n
    cases hf : findF T.L n with
    | none =>
      rw [hf] at hlk hFS
      simp only at hlk hFS
      rw [hFS]
      have HLK := Lib.hid hlk
      clear h hT hK hW hFS hin hlk hf
      go_enter Tryz.func30, Tryz.ntmps30
      go_wp2_with fail
      refine HIS.out.mono ?_
      rintro e w1 ⟨rfl, rfl⟩
      go_wp2_with (refine wpList_lookup_run rfl _ _ _ _ rfl rfl rfl HLK.out ?_)
      go_ret
      exact ⟨p, rfl, rfl, HH.out, Upd.refl _ _⟩
    | some q =>
      rw [hf] at hlk hFS
      simp only at hlk hFS
      have HLK := Lib.hid hlk
      have hq := (findF_some hf).1
      have hqn := (findF_some hf).2
      obtain ⟨A, c, f0, f1, f2, f3, f4, f5, f6, fz, hce⟩ := (h.fr _ hq).cells
      obtain ⟨k, hB, hk⟩ := hK.ex
      have HBK := Lib.hid (back_ok h hT hB hk hK.down hW hq (hK.dk q hq).1 (hK.dk q hq).2)
      unfold ptrF at HLK HBK
      by_cases hpz : q.1.pins = 0
      · rw [if_pos hpz] at hFS
        rw [hFS]
        have HEV : Hid (evS S T q = if (backS S T q.1).2 = 0 then (((backS S T q.1).1.1, { (backS S T q.1).1.2 with L := remF (backS S T q.1).1.2.L q.1.no }), 0) else backS S T q.1) := Lib.hid rfl
        obtain ⟨R, hR⟩ : ∃ R, backS S T q.1 = R := ⟨_, rfl⟩
        rw [hR] at HBK HEV
        obtain ⟨b, hb⟩ : ∃ b, q.2 = b := ⟨_, rfl⟩
        rw [hb] at HLK HBK f1
        have f1' : w.cell? ⟨b, 1, none⟩ = some (.int .i64 0) := by rw [f1, hpz]; rfl
        have hfmR : R.1.2.fm = T.fm := by
          rw [← hR]
          unfold backS
          split
          · rfl
          · split
            · rfl
            · split <;> rfl
        subst hqn
        have HFM := Lib.hid hfmR
        clear h hT hK hW hFS hin hlk hf hq hB hk hR hb f0 f1 f2 f3 f4 f5 f6 fz hce hpz hfmR
        go_enter Tryz.func30, Tryz.ntmps30
        go_wp2_with fail
        refine HIS.out.mono ?_
        rintro e w1 ⟨rfl, rfl⟩
        go_wp2_with (refine wpList_lookup_run rfl _ _ _ _ rfl rfl rfl HLK.out ?_)
        refine HBK.out.mono ?_
        rintro e w2 ⟨p2, hpd, rfl, hP2, hU2⟩
        obtain ⟨⟨S2, T2⟩, x2⟩ := R
        simp only at hP2 HFM HEV ⊢
        have HX := Lib.hid (show p2.d = p.d ∧ PoolAt bz w2 P p2 l S2 T2 ∧ Upd (PoolF bz w1) w1 w2 from ⟨hpd, hP2, hU2⟩)
        by_cases hx2 : x2 = 0
        · subst hx2
          obtain ⟨w3, hrd, hP3, hU3⟩ := hP2.rem q.1.no
          have c6' := hP2.blk.cell 6
          simp only [List.getElem?_toArray, List.getElem?_cons_zero, List.getElem?_cons_succ] at c6'
          have HRD := Lib.hid hrd
          have HP3 := Lib.hid hP3
          have HU3 := Lib.hid (hU2.pools hU3)
          have hev := HEV.out
          rw [if_pos rfl] at hev
          have HEV2 := Lib.hid hev
          clear hpd hP2 hU2 hrd hP3 hU3 hev HEV
          go_wp2_with (with_reducible refine wpList_delete_run rfl _ _ _ _ rfl rfl rfl (HRD.out _) ?_)
          go_ret
          rw [HEV2.out]
          exact ⟨p2, HX.out.1, rfl, HP3.out, HU3.out⟩
        · have hxb : (x2 == 0) = false := by simpa using hx2
          have hev := HEV.out
          rw [if_neg hx2] at hev
          have HEV2 := Lib.hid hev
          clear hpd hP2 hU2 hev HEV hx2
          go_wp2_with fail
          go_ret
          rw [HEV2.out]
          exact ⟨p2, HX.out.1, rfl, HX.out.2.1, HX.out.2.2⟩
      · rw [if_neg hpz] at hFS
        rw [hFS]
        obtain ⟨b, hb⟩ : ∃ b, q.2 = b := ⟨_, rfl⟩
        obtain ⟨pn, hpn⟩ : ∃ pn, q.1.pins = pn := ⟨_, rfl⟩
        rw [hb] at HLK f1
        rw [hpn] at f1 hpz
        have hp0 : (0 : Int) < (pn : Int) := by omega
        clear h hT hK hW hFS hin hlk hf hq hB hk hb f0 f2 f3 f4 f5 f6 fz hce hpz hqn hpn HBK
        go_enter Tryz.func30, Tryz.ntmps30
        go_wp2_with fail
        refine HIS.out.mono ?_
        rintro e w1 ⟨rfl, rfl⟩
        go_wp2_with (refine wpList_lookup_run rfl _ _ _ _ rfl rfl rfl HLK.out ?_)
        go_ret
        exact ⟨p, rfl, rfl, HH.out, Upd.refl _ _⟩
  · rw [if_neg hin] at hFS
    rw [if_neg hin] at HIS
    rw [hFS]
    clear h hT hK hW hFS hin
    go_enter Tryz.func30, Tryz.ntmps30
    go_wp2_with fail
    refine HIS.out.mono ?_
    rintro e w1 ⟨rfl, rfl⟩
    go_wp2_with fail
    go_ret
    exact ⟨p, rfl, rfl, HH.out, Upd.refl _ _⟩
end
end Go.Proofs.YtdfccegeihfdpaaGreatDoor
