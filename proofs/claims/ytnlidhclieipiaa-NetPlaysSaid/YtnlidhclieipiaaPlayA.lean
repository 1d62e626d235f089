/-
  What each call of a net does, as one function of its parcels, for both nets.
-/
import Derived.Test.YtnlidhclieipiaaRefD
import Derived.Test.YtnlidhclieipiaaNetG
namespace Go.Proofs.Ytnlidhclieipiaa
open Go Go.RowKit

def pclsOf (L : Pcls) : List Pcl := L.map (·.1)
theorem pclsOf_get (L : Pcls) (i : Nat) : (pclsOf L)[i]? = (L[i]?).map (·.1) := by simp [pclsOf]
theorem pclsOf_length (L : Pcls) : (pclsOf L).length = L.length := by simp [pclsOf]
def noPcl : Pcl := ⟨0, 0, [], false⟩

/-- Is there a parcel i? -/
def pAt (ps : List Pcl) (i : Int) : Option Pcl := if 0 ≤ i then ps[i.toNat]? else none
def sSend (p : Pcl) (ps : List Pcl) (lost : Int) : Int × List Pcl × Int := if ps.length < 256 then (0, ps ++ [p], lost) else (162, ps, lost + 1)
def sCode (ps : List Pcl) (i : Int) : Int := if (pAt ps i).isSome then 0 else 1
def sPcl (ps : List Pcl) (i : Int) : Pcl := (pAt ps i).getD noPcl
def sRest (ps : List Pcl) (i : Int) : List Pcl := if (pAt ps i).isSome then ps.eraseIdx i.toNat else ps
def sLost (ps : List Pcl) (i : Int) (lost : Int) : Int := if (pAt ps i).isSome then lost + 1 else lost
def sTwice (ps : List Pcl) (i lost : Int) : Int × List Pcl × Int := match pAt ps i with
  | none => (1, ps, lost)
  | some p => sSend p ps lost
def sSpoil (ps : List Pcl) (i at_ : Int) (mask : UInt8) : Int × List Pcl := match pAt ps i with
  | none => (1, ps)
  | some p => if at_ < 0 ∨ (p.body.length : Int) ≤ at_ ∨ mask = 0 then (1, ps) else if p.spoilt then (161, ps) else (0, ps.set i.toNat (p.spoil at_.toNat (p.body.getD at_.toNat 0 ^^^ mask)))

theorem pAt_cases (L : Pcls) (i : Int) : (pAt (pclsOf L) i = none ∧ (i < 0 ∨ (L.length : Int) ≤ i)) ∨ ∃ (n : Nat) (x : Pcl × Value), i = n ∧ L[n]? = some x ∧ pAt (pclsOf L) i = some x.1 := by
  unfold pAt
  by_cases h : 0 ≤ i
  · obtain ⟨n, rfl⟩ := Int.eq_ofNat_of_zero_le h
    rw [if_pos h, Int.toNat_natCast, pclsOf_get]
    rcases hL : L[n]? with _ | x
    · left
      refine ⟨rfl, .inr ?_⟩
      have := List.getElem?_eq_none_iff.1 hL
      omega
    · exact .inr ⟨n, x, rfl, hL, rfl⟩
  · rw [if_neg h]
    exact .inl ⟨rfl, .inl (by omega)⟩

/-- A net behind a call. -/
def NetStep (w : World) (bn c : Nat) (L : Pcls) (ps : List Pcl) (lost : Int) (w' : World) : Prop :=
  ∃ L', NetP w' bn c L' lost ∧ pclsOf L' = ps ∧ (∀ j, foot bn c L' j → foot bn c L j ∨ w.heap.size ≤ j) ∧ Upd (foot bn c L) w w'
/-- The reference's behind a call. -/
def RefStep (w : World) (bm : Nat) (vL : Value) (M : Pcls) (ps : List Pcl) (lost : Int) (w' : World) : Prop :=
  ∃ vL' M', RefP w' bm vL' M' lost ∧ pclsOf M' = ps ∧ (∀ j, rfoot bm vL' M' j → rfoot bm vL M j ∨ w.heap.size ≤ j) ∧ Upd (rfoot bm vL M) w w'

theorem erase_pcls (L : Pcls) (n : Nat) : pclsOf (L.eraseIdx n) = (pclsOf L).eraseIdx n := by
  simp only [pclsOf, List.eraseIdx_eq_take_drop_succ, List.map_append, List.map_take, List.map_drop]
theorem set_pcls (L : Pcls) (n : Nat) (y : Pcl × Value) : pclsOf (L.set n y) = (pclsOf L).set n y.1 := by simp [pclsOf, List.map_set]
theorem snoc_pcls (L : Pcls) (p : Pcl) (v : Value) : pclsOf (L ++ [(p, v)]) = pclsOf L ++ [p] := by simp [pclsOf]

section
variable {w w' : World} {bn c : Nat} {L : Pcls} {lost : Int}
theorem NetStep.same (h : NetP w bn c L lost) (hu : Upd Nowhere w w') : NetStep w bn c L (pclsOf L) lost w' := ⟨L, h.upd hu fun _ _ => id, rfl, fun _ h => .inl h, hu.mono fun _ _ h => h.elim⟩
theorem NetStep.kept (h : NetP w' bn c L lost) (hu : Upd (fun k => k = c ∨ k = bn) w w') : NetStep w bn c L (pclsOf L) lost w' := ⟨L, h, rfl, fun _ h => .inl h, hu.mono fun _ _ h => by rcases h with h | h; exact .inr (.inl h); exact .inl h⟩
theorem NetStep.more {p : Pcl} {v : Value} (h : NetP w' bn c (L ++ [(p, v)]) lost) (hv : ∀ k, v.ownBlock = some k → w.heap.size ≤ k) (hu : Upd (· = c) w w') : NetStep w bn c L (pclsOf L ++ [p]) lost w' := by
  refine ⟨_, h, snoc_pcls _ _ _, fun j hj => ?_, hu.mono fun _ _ h => .inr (.inl h)⟩
  rcases hj with hj | hj | ⟨x, hx, hj⟩
  · exact .inl (.inl hj)
  · exact .inl (.inr (.inl hj))
  · rcases List.mem_append.1 hx with hx | hx
    · exact .inl (.inr (.inr ⟨x, hx, hj⟩))
    · simp at hx; subst hx
      exact .inr (hv j hj)
theorem NetStep.less {n : Nat} {lost' : Int} (h : NetP w' bn c (L.eraseIdx n) lost') (hu : Upd (fun k => k = c ∨ k = bn) w w') : NetStep w bn c L ((pclsOf L).eraseIdx n) lost' w' :=
  ⟨_, h, erase_pcls _ _, fun _ h => .inl (foot_erase h), hu.mono fun _ _ h => by rcases h with h | h; exact .inr (.inl h); exact .inl h⟩
end
section
variable {w w' : World} {bm : Nat} {vL vL' : Value} {M : Pcls} {lost : Int}
theorem RefStep.same (h : RefP w bm vL M lost) (hu : Upd Nowhere w w') : RefStep w bm vL M (pclsOf M) lost w' := ⟨vL, M, h.upd hu fun _ _ => id, rfl, fun _ h => .inl h, hu.mono fun _ _ h => h.elim⟩
theorem RefStep.kept (h : RefP w' bm vL M lost) (hu : Upd (· = bm) w w') : RefStep w bm vL M (pclsOf M) lost w' := ⟨vL, M, h, rfl, fun _ h => .inl h, hu.mono fun _ _ h => .inl h⟩
theorem RefStep.more {p : Pcl} {v : Value} (h : RefP w' bm vL' (M ++ [(p, v)]) lost) (hv : ∀ k, v.ownBlock = some k → w.heap.size ≤ k) (hL : ∀ k, vL'.ownBlock = some k → vL.ownBlock = some k ∨ w.heap.size ≤ k) (hu : Upd (fun k => k = bm ∨ vL.ownBlock = some k) w w') : RefStep w bm vL M (pclsOf M ++ [p]) lost w' := by
  refine ⟨_, _, h, snoc_pcls _ _ _, fun j hj => ?_, hu.mono fun _ _ h => by rcases h with h | h; exact .inl h; exact .inr (.inl h)⟩
  rcases hj with hj | hj | ⟨x, hx, hj⟩
  · exact .inl (.inl hj)
  · rcases hL j hj with h | h
    · exact .inl (.inr (.inl h))
    · exact .inr h
  · rcases List.mem_append.1 hx with hx | hx
    · exact .inl (.inr (.inr ⟨x, hx, hj⟩))
    · simp at hx; subst hx
      exact .inr (hv j hj)
theorem RefStep.less {n : Nat} {lost' : Int} (h : RefP w' bm vL' (M.eraseIdx n) lost') (hL : ∀ k, vL'.ownBlock = some k → w.heap.size ≤ k) (hu : Upd (· = bm) w w') : RefStep w bm vL M ((pclsOf M).eraseIdx n) lost' w' := by
  refine ⟨_, _, h, erase_pcls _ _, fun j hj => ?_, hu.mono fun _ _ h => .inl h⟩
  rcases hj with hj | hj | ⟨x, hx, hj⟩
  · exact .inl (.inl hj)
  · exact .inr (hL j hj)
  · exact .inl (.inr (.inr ⟨x, (List.eraseIdx_sublist M n).subset hx, hj⟩))
end

section
variable (bn c : Nat) (L : Pcls) (lost : Int) (w : World)
theorem send_any (h0 : 0 ≤ lost) (h9 : lost ≤ 9223372036854775806) (p : Pcl) (v : Value) (h : NetP w bn c L lost) (hv : Reads w 1 v p.body.length (bytesV p.body)) (hl : p.body.length ≤ 4096) :
    Calls Try.prog 10 #[.pointer (some ⟨bn, 0, none⟩), p.val v] w fun e w' => e = .returned (.int .i64 (sSend p (pclsOf L) lost).1) ∧ NetStep w bn c L (sSend p (pclsOf L) lost).2.1 (sSend p (pclsOf L) lost).2.2 w' := by
  unfold sSend
  rw [pclsOf_length]
  have hlen := h.len
  by_cases hr : L.length < 256
  · rw [if_pos hr]
    refine (send_okP bn c L lost p v w h hv hl hr).mono ?_
    rintro e w' ⟨v', rfl, hn, hk, hu⟩
    exact ⟨rfl, .more hn hk hu⟩
  · rw [if_neg hr]
    refine (send_fullP bn c L lost p v w h hv hl (by omega) h0 h9).mono ?_
    rintro e w' ⟨rfl, hn, hu⟩
    exact ⟨rfl, .kept hn (hu.mono fun _ _ h => .inr h)⟩
theorem drop_any (h0 : 0 ≤ lost) (h9 : lost ≤ 9223372036854775806) (i : Int) (h : NetP w bn c L lost) :
    Calls Try.prog 21 #[.pointer (some ⟨bn, 0, none⟩), .int .i64 i] w fun e w' => e = .returned (.int .i64 (sCode (pclsOf L) i)) ∧ NetStep w bn c L (sRest (pclsOf L) i) (sLost (pclsOf L) i lost) w' := by
  unfold sCode sRest sLost
  rcases pAt_cases L i with ⟨e, hi⟩ | ⟨n, x, rfl, hx, e⟩
  · rw [e]
    refine (drop_bad bn c L lost w i h hi).mono ?_
    rintro e w' ⟨rfl, hu⟩
    exact ⟨rfl, .same h hu⟩
  · rw [e]
    refine (drop_ok bn c L lost w n x h hx h0 h9).mono ?_
    rintro e w' ⟨rfl, hn, hu⟩
    exact ⟨rfl, .less hn hu⟩
theorem twice_any (h0 : 0 ≤ lost) (h9 : lost ≤ 9223372036854775806) (i : Int) (h : NetP w bn c L lost) :
    Calls Try.prog 16 #[.pointer (some ⟨bn, 0, none⟩), .int .i64 i] w fun e w' => e = .returned (.int .i64 (sTwice (pclsOf L) i lost).1) ∧ NetStep w bn c L (sTwice (pclsOf L) i lost).2.1 (sTwice (pclsOf L) i lost).2.2 w' := by
  unfold sTwice
  have hlen := h.len
  rcases pAt_cases L i with ⟨e, hi⟩ | ⟨n, x, rfl, hx, e⟩
  · rw [e]
    refine (twice_bad bn c L lost w i h hi).mono ?_
    rintro e w' ⟨rfl, hu⟩
    exact ⟨rfl, .same h hu⟩
  · rw [e]
    simp only []
    unfold sSend
    rw [pclsOf_length]
    by_cases hr : L.length < 256
    · rw [if_pos hr]
      refine (twice_ok bn c L lost w n x h hx hr).mono ?_
      rintro e w' ⟨v', rfl, hn, hk, hu⟩
      exact ⟨rfl, .more hn hk hu⟩
    · rw [if_neg hr]
      refine (twice_full bn c L lost w n x h hx (by omega) h0 h9).mono ?_
      rintro e w' ⟨rfl, hn, hu⟩
      exact ⟨rfl, .kept hn hu⟩
end
section
variable (bn c : Nat) (L : Pcls) (lost : Int) (w : World)
theorem look_any (i : Int) (h : NetP w bn c L lost) :
    Calls Try.prog 18 #[.pointer (some ⟨bn, 0, none⟩), .int .i64 i] w fun e w' => ∃ v, e = .returned (.tuple #[(sPcl (pclsOf L) i).val v, .int .i64 (sCode (pclsOf L) i)]) ∧ Reads w' 1 v (sPcl (pclsOf L) i).body.length (bytesV (sPcl (pclsOf L) i).body) ∧ NetStep w bn c L (pclsOf L) lost w' := by
  unfold sCode sPcl
  rcases pAt_cases L i with ⟨e, hi⟩ | ⟨n, x, rfl, hx, e⟩
  · rw [e]
    refine (look_bad bn c L lost w i h hi).mono ?_
    rintro e w' ⟨rfl, hu⟩
    exact ⟨.slice none 0 0, rfl, ⟨none, 0, rfl, Nat.le_refl _, rfl, fun h => absurd h (by decide)⟩, .same h hu⟩
  · rw [e]
    refine (look_ok bn c L lost n x w h hx).mono ?_
    rintro e w' ⟨v', rfl, hn, ho, hu⟩
    exact ⟨v', rfl, Reads.of_own ho, .kept hn (hu.mono fun _ _ h => .inl h)⟩
theorem take_any (i : Int) (h : NetP w bn c L lost) :
    Calls Try.prog 12 #[.pointer (some ⟨bn, 0, none⟩), .int .i64 i] w fun e w' => ∃ v, e = .returned (.tuple #[(sPcl (pclsOf L) i).val v, .int .i64 (sCode (pclsOf L) i)]) ∧ Reads w' 1 v (sPcl (pclsOf L) i).body.length (bytesV (sPcl (pclsOf L) i).body) ∧ (∀ k, v.ownBlock = some k → foot bn c L k) ∧ NetStep w bn c L (sRest (pclsOf L) i) lost w' := by
  unfold sCode sPcl sRest
  rcases pAt_cases L i with ⟨e, hi⟩ | ⟨n, x, rfl, hx, e⟩
  · rw [e]
    refine (take_bad bn c L lost w i h hi).mono ?_
    rintro e w' ⟨rfl, hu⟩
    exact ⟨.slice none 0 0, rfl, ⟨none, 0, rfl, Nat.le_refl _, rfl, fun h => absurd h (by decide)⟩, fun k hk => by simp [Value.ownBlock] at hk, .same h hu⟩
  · rw [e]
    refine (take_ok bn c L lost n x w h hx).mono ?_
    rintro e w' ⟨rfl, hn, ho, hu⟩
    exact ⟨x.2, rfl, Reads.of_own ho, fun k hk => .inr (.inr ⟨x, List.mem_of_getElem? hx, hk⟩), .less hn (hu.mono fun _ _ h => .inl h)⟩
theorem spoil_any (i at_ : Int) (mask : UInt8) (h : NetP w bn c L lost) :
    Calls Try.prog 24 #[.pointer (some ⟨bn, 0, none⟩), .int .i64 i, .int .i64 at_, .int .u8 mask.toNat] w fun e w' => e = .returned (.int .i64 (sSpoil (pclsOf L) i at_ mask).1) ∧ NetStep w bn c L (sSpoil (pclsOf L) i at_ mask).2 lost w' := by
  unfold sSpoil
  rcases pAt_cases L i with ⟨e, hi⟩ | ⟨n, x, rfl, hx, e⟩
  · rw [e]
    refine (spoil_range bn c L lost w i at_ mask h hi).mono ?_
    rintro e w' ⟨rfl, hu⟩
    exact ⟨rfl, .same h hu⟩
  · rw [e]
    simp only []
    by_cases hb : at_ < 0 ∨ (x.1.body.length : Int) ≤ at_ ∨ mask = 0
    · rw [if_pos hb]
      refine (spoil_bad bn c L lost w n x at_ mask h hx hb).mono ?_
      rintro e w' ⟨rfl, hn, hu⟩
      exact ⟨rfl, .kept hn (hu.mono fun _ _ h => .inl h)⟩
    · rw [if_neg hb]
      simp only [not_or] at hb
      obtain ⟨k, rfl⟩ := Int.eq_ofNat_of_zero_le (show 0 ≤ at_ by omega)
      have hk : k < x.1.body.length := by omega
      rw [Int.toNat_natCast, Int.toNat_natCast]
      by_cases hs : x.1.spoilt = true
      · rw [if_pos hs]
        refine (spoil_state bn c L lost w n x k mask h hx hk hb.2.2 hs).mono ?_
        rintro e w' ⟨rfl, hn, hu⟩
        exact ⟨rfl, .kept hn (hu.mono fun _ _ h => .inl h)⟩
      · rw [if_neg hs]
        have hg : x.1.body[k]? = some (x.1.body.getD k 0) := by rw [List.getElem?_eq_getElem hk, List.getD_eq_getElem?_getD, List.getElem?_eq_getElem hk]; rfl
        refine (spoil_ok bn c L lost w n x k mask _ h hx hg hb.2.2 (by simpa using hs)).mono ?_
        rintro e w' ⟨rfl, hn, hu⟩
        refine ⟨rfl, _, hn, set_pcls _ _ _, fun j hj => ?_, hu.mono fun j _ h => ?_⟩
        · rcases hj with hj | hj | ⟨y, hy, hj⟩
          · exact .inl (.inl hj)
          · exact .inl (.inr (.inl hj))
          · rcases List.mem_or_eq_of_mem_set hy with hy | rfl
            · exact .inl (.inr (.inr ⟨y, hy, hj⟩))
            · exact .inl (.inr (.inr ⟨x, List.mem_of_getElem? hx, hj⟩))
        · rcases h with h | h
          · exact .inr (.inl h)
          · exact .inr (.inr ⟨x, List.mem_of_getElem? hx, h⟩)
end
end Go.Proofs.Ytnlidhclieipiaa
