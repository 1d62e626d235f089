/-
  Contracts of layer 12: is, pinned, Unpin, own, Page.
-/
import Derived.Test.YtdfccegeihfdpaaGreatDoorPgH
namespace Go.Proofs.YtdfccegeihfdpaaGreatDoor
open Go Go.RowKit

theorem keyI : KeyEnc (.int .i64) intK := keyInt .i64
def inT (T : PoS) (n : Int) : Prop := 0 ≤ n ∧ n < T.pages
instance (T : PoS) (n : Int) : Decidable (inT T n) := inferInstanceAs (Decidable (_ ∧ _))
section
variable {w : World} {bz P l : Nat} {p : DkP} {S : LogS} {T : PoS}
set_option maxRecDepth 100000 in
set_option maxHeartbeats 2000000 in
theorem is_ok (h : PoolAt bz w P p l S T) (n : Int) : Calls Tryz.prog 76 #[.pointer (some ⟨P, 0, none⟩), .int .i64 n] w fun e w' => e = .returned (.int .i64 (if inT T n then 0 else 1)) ∧ w' = w := by
  have c3 := h.blk.cell 3
  simp only [List.getElem?_toArray, List.getElem?_cons_zero, List.getElem?_cons_succ] at c3
  obtain ⟨m, hm⟩ : ∃ m, T.pages = m := ⟨_, rfl⟩
  rw [hm] at c3
  have HM : Hid (T.pages = m) := Lib.hid hm
  clear h hm
  by_cases h0 : n < 0
  · have e : ¬ inT T n := fun h => by have := h.1; omega
    rw [if_neg e]
    clear e
    go_enter Tryz.func76, Tryz.ntmps76
    go_wp2_with fail
    go_ret
    exact ⟨rfl, rfl⟩
  · by_cases h1 : n < (m : Int)
    · have e : inT T n := ⟨by omega, by rw [HM.out]; exact h1⟩
      rw [if_pos e]
      clear e
      go_enter Tryz.func76, Tryz.ntmps76
      go_wp2_with fail
      go_ret
      exact ⟨rfl, rfl⟩
    · have e : ¬ inT T n := fun h => by have := h.2; rw [HM.out] at this; omega
      rw [if_neg e]
      clear e
      go_enter Tryz.func76, Tryz.ntmps76
      go_wp2_with fail
      go_ret
      exact ⟨rfl, rfl⟩
theorem zero_ptrF (w : World) : (zeroValue 140).run Tryz.prog w = .ok (.pointer none) w := by kernel_rfl
theorem PoolAt.look (h : PoolAt bz w P p l S T) (n : Int) : (Instr.lookup 137 (.map (some T.fm)) (.int .i64 n) false).run Tryz.prog w = .ok (match findF T.L n with | some q => ptrF q | none => .pointer none) w := by
  have h1 := h.map.look keyI Tryz.underlying137 Tryz.underlying3 (zero_ptrF w) n false
  have e : (frF T.L n).getD (.pointer none) = (match findF T.L n with | some q => ptrF q | none => .pointer none) := by
    unfold frF
    cases findF T.L n <;> rfl
  rw [e] at h1
  exact h1
/-- A pinned page's frame. -/
def pinS (T : PoS) (n : Int) : Except Int FrB := if inT T n then match findF T.L n with
  | some q => if q.1.pins = 0 then .error 121 else .ok q
  | none => .error 121
  else .error 1
def pinV : Except Int FrB → Value
  | .error e => .tuple #[.pointer none, .int .i64 e]
  | .ok q => .tuple #[ptrF q, .int .i64 0]
theorem FrAt.cells {b : Nat} {x : FrP} (h : FrAt w b x) : ∃ A c, w.cell? ⟨b, 0, none⟩ = some (.int .i64 (x.no : Nat)) ∧ w.cell? ⟨b, 1, none⟩ = some (.int .i64 (x.pins : Nat)) ∧ w.cell? ⟨b, 2, none⟩ = some (.int .i64 (x.rc : Nat)) ∧ w.cell? ⟨b, 3, none⟩ = some (.int .i64 (x.stamp : Nat)) ∧ w.cell? ⟨b, 4, none⟩ = some (.int .i64 (x.lsn : Nat)) ∧ w.cell? ⟨b, 5, none⟩ = some (.slice A x.cells.length c) ∧ w.cell? ⟨b, 6, none⟩ = some (.int .i64 (x.at_ : Nat)) ∧ (∀ i, w.frozen? ⟨b, i, none⟩ = false) ∧ CellsE w (.slice A x.cells.length c) x.cells := by
  obtain ⟨A, c, h1, h2⟩ := h.ex
  exact ⟨A, c, h1.cell 0, h1.cell 1, h1.cell 2, h1.cell 3, h1.cell 4, h1.cell 5, h1.cell 6, h1.frozen, h2⟩
set_option maxRecDepth 100000 in
set_option maxHeartbeats 2000000 in
theorem pinned_ok (h : PoolAt bz w P p l S T) (n : Int) : Calls Tryz.prog 80 #[.pointer (some ⟨P, 0, none⟩), .int .i64 n] w fun e w' => e = .returned (pinV (pinS T n)) ∧ w' = w := by
  have HIS := Lib.hid (is_ok h n)
  have c6 := h.blk.cell 6
  simp only [List.getElem?_toArray, List.getElem?_cons_zero, List.getElem?_cons_succ] at c6
  have hlk := h.look n
  have HP : Hid (pinS T n = if inT T n then match findF T.L n with
    | some q => if q.1.pins = 0 then .error 121 else .ok q
    | none => .error 121
    else .error 1) := Lib.hid rfl
  by_cases hin : inT T n
  · have HIN := Lib.hid hin
    have e0 : (if inT T n then (0 : Int) else 1) = 0 := if_pos hin
    rw [e0] at HIS
    have hp := HP.out
    rw [if_pos hin] at hp
    cases hf : findF T.L n with
    | none =>
      rw [hf] at hlk hp
      simp only at hlk hp
      rw [hp]
      have HLK := Lib.hid hlk
      unfold pinV
      clear h hp HP hin HIN hf e0 hlk
      go_enter Tryz.func80, Tryz.ntmps80
      go_wp2_with fail
      refine HIS.out.mono ?_
      rintro e w1 ⟨rfl, rfl⟩
      go_wp2_with (refine wpList_lookup_run rfl _ _ _ _ rfl rfl rfl HLK.out ?_)
      go_ret2
      exact ⟨rfl, rfl⟩
    | some q =>
      rw [hf] at hlk hp
      simp only at hlk hp
      obtain ⟨x, b⟩ := q
      obtain ⟨A, c, f0, f1, f2, f3, f4, f5, f6, fz, hce⟩ := (h.fr _ (findF_some hf).1).cells
      simp only at f1
      have HLK := Lib.hid hlk
      unfold ptrF at HLK
      simp only at HLK
      by_cases h0 : x.pins = 0
      · rw [if_pos h0] at hp
        rw [hp]
        rw [h0] at f1
        have f1' : w.cell? ⟨b, 1, none⟩ = some (.int .i64 0) := f1
        unfold pinV
        clear h hp HP hin HIN hf e0 hlk f0 f2 f3 f4 f5 f6 fz hce f1 h0
        go_enter Tryz.func80, Tryz.ntmps80
        go_wp2_with fail
        refine HIS.out.mono ?_
        rintro e w1 ⟨rfl, rfl⟩
        go_wp2_with (refine wpList_lookup_run rfl _ _ _ _ rfl rfl rfl HLK.out ?_)
        go_ret2
        exact ⟨rfl, rfl⟩
      · rw [if_neg h0] at hp
        rw [hp]
        obtain ⟨pn, hpn⟩ : ∃ pn, x.pins = pn := ⟨_, rfl⟩
        rw [hpn] at f1 h0
        have h0' : ((pn : Int) == 0) = false := by simpa using h0
        have h0'' : ¬ (pn : Int) = 0 := by omega
        unfold pinV ptrF
        simp only
        clear h hp HP hin HIN hf e0 hlk f0 f2 f3 f4 f5 f6 fz hce hpn h0
        go_enter Tryz.func80, Tryz.ntmps80
        go_wp2_with fail
        refine HIS.out.mono ?_
        rintro e w1 ⟨rfl, rfl⟩
        go_wp2_with (refine wpList_lookup_run rfl _ _ _ _ rfl rfl rfl HLK.out ?_)
        go_ret2
        exact ⟨rfl, rfl⟩
  · have e0 : (if inT T n then (0 : Int) else 1) = 1 := if_neg hin
    rw [e0] at HIS
    have hp := HP.out
    rw [if_neg hin] at hp
    rw [hp]
    unfold pinV
    clear h hp HP hin e0 hlk
    go_enter Tryz.func80, Tryz.ntmps80
    go_wp2_with fail
    refine HIS.out.mono ?_
    rintro e w1 ⟨rfl, rfl⟩
    go_wp2_with fail
    go_ret2
    exact ⟨rfl, rfl⟩
end
end Go.Proofs.YtdfccegeihfdpaaGreatDoor
