/-
  What each call of the reference's net does, as the same functions of its parcels.
-/
import Derived.Test.YtnlidhclieipiaaPlayA
namespace Go.Proofs.Ytnlidhclieipiaa
open Go Go.RowKit

section
variable (bm : Nat) (vL : Value) (M : Pcls) (lost : Int) (w : World)
theorem refSend_any (h0 : 0 ≤ lost) (h9 : lost ≤ 9223372036854775806) (p : Pcl) (v : Value) (h : RefP w bm vL M lost) (hv : Reads w 1 v p.body.length (bytesV p.body)) (hl : p.body.length ≤ 4096) :
    Calls Try.prog 17 #[.pointer (some ⟨bm, 0, none⟩), .agg #[.int .i64 p.frm, .int .i64 p.dst, v, .bool p.spoilt]] w fun e w' => e = .returned (.int .i64 (sSend p (pclsOf M) lost).1) ∧ RefStep w bm vL M (sSend p (pclsOf M) lost).2.1 (sSend p (pclsOf M) lost).2.2 w' := by
  unfold sSend
  rw [pclsOf_length]
  have hlen := h.len
  by_cases hr : M.length < 256
  · rw [if_pos hr]
    refine (refSend_ok bm vL M lost p v w h hv hl hr).mono ?_
    rintro e w' ⟨vL', v', rfl, hn, hk, hL, hu⟩
    exact ⟨rfl, .more hn hk hL hu⟩
  · rw [if_neg hr]
    refine (refSend_full bm vL M lost w p v h hv hl (by omega) h0 h9).mono ?_
    rintro e w' ⟨rfl, hn, hu⟩
    exact ⟨rfl, .kept hn hu⟩
theorem refDrop_any (h0 : 0 ≤ lost) (h9 : lost ≤ 9223372036854775806) (i : Int) (h : RefP w bm vL M lost) :
    Calls Try.prog 22 #[.pointer (some ⟨bm, 0, none⟩), .int .i64 i] w fun e w' => e = .returned (.int .i64 (sCode (pclsOf M) i)) ∧ RefStep w bm vL M (sRest (pclsOf M) i) (sLost (pclsOf M) i lost) w' := by
  unfold sCode sRest sLost
  rcases pAt_cases M i with ⟨e, hi⟩ | ⟨n, x, rfl, hx, e⟩
  · rw [e]
    refine (refDrop_bad bm vL M lost w i h hi).mono ?_
    rintro e w' ⟨rfl, hu⟩
    exact ⟨rfl, .same h hu⟩
  · rw [e]
    refine (refDrop_ok bm vL M lost w n x h hx h0 h9).mono ?_
    rintro e w' ⟨vL', rfl, hn, hL, hu⟩
    exact ⟨rfl, .less hn hL hu⟩
theorem refTwice_any (h0 : 0 ≤ lost) (h9 : lost ≤ 9223372036854775806) (i : Int) (h : RefP w bm vL M lost) :
    Calls Try.prog 23 #[.pointer (some ⟨bm, 0, none⟩), .int .i64 i] w fun e w' => e = .returned (.int .i64 (sTwice (pclsOf M) i lost).1) ∧ RefStep w bm vL M (sTwice (pclsOf M) i lost).2.1 (sTwice (pclsOf M) i lost).2.2 w' := by
  unfold sTwice
  have hlen := h.len
  rcases pAt_cases M i with ⟨e, hi⟩ | ⟨n, x, rfl, hx, e⟩
  · rw [e]
    refine (refTwice_bad bm vL M lost w i h hi).mono ?_
    rintro e w' ⟨rfl, hu⟩
    exact ⟨rfl, .same h hu⟩
  · rw [e]
    simp only []
    unfold sSend
    rw [pclsOf_length]
    by_cases hr : M.length < 256
    · rw [if_pos hr]
      refine (refTwice_ok bm vL M lost w n x h hx hr).mono ?_
      rintro e w' ⟨vL', v', rfl, hn, hk, hL, hu⟩
      exact ⟨rfl, .more hn hk hL hu⟩
    · rw [if_neg hr]
      refine (refTwice_full bm vL M lost w n x h hx (by omega) h0 h9).mono ?_
      rintro e w' ⟨rfl, hn, hu⟩
      exact ⟨rfl, .kept hn hu⟩
theorem refLook_any (i : Int) (h : RefP w bm vL M lost) :
    Calls Try.prog 19 #[.pointer (some ⟨bm, 0, none⟩), .int .i64 i] w fun e w' => ∃ v, e = .returned (.tuple #[(sPcl (pclsOf M) i).val v, .int .i64 (sCode (pclsOf M) i)]) ∧ Reads w' 1 v (sPcl (pclsOf M) i).body.length (bytesV (sPcl (pclsOf M) i).body) ∧ RefStep w bm vL M (pclsOf M) lost w' := by
  unfold sCode sPcl
  rcases pAt_cases M i with ⟨e, hi⟩ | ⟨n, x, rfl, hx, e⟩
  · rw [e]
    refine (refLook_bad bm vL M lost w i h hi).mono ?_
    rintro e w' ⟨rfl, hu⟩
    exact ⟨.slice none 0 0, rfl, ⟨none, 0, rfl, Nat.le_refl _, rfl, fun h => absurd h (by decide)⟩, .same h hu⟩
  · rw [e]
    refine (refLook_ok bm vL M lost w n x h hx).mono ?_
    rintro e w' ⟨v', rfl, ho, hu⟩
    exact ⟨v', rfl, Reads.of_own ho, .same h hu⟩
theorem refTake_any (i : Int) (h : RefP w bm vL M lost) :
    Calls Try.prog 20 #[.pointer (some ⟨bm, 0, none⟩), .int .i64 i] w fun e w' => ∃ v, e = .returned (.tuple #[(sPcl (pclsOf M) i).val v, .int .i64 (sCode (pclsOf M) i)]) ∧ Reads w' 1 v (sPcl (pclsOf M) i).body.length (bytesV (sPcl (pclsOf M) i).body) ∧ RefStep w bm vL M (sRest (pclsOf M) i) lost w' := by
  unfold sCode sPcl sRest
  rcases pAt_cases M i with ⟨e, hi⟩ | ⟨n, x, rfl, hx, e⟩
  · rw [e]
    refine (refTake_bad bm vL M lost w i h hi).mono ?_
    rintro e w' ⟨rfl, hu⟩
    exact ⟨.slice none 0 0, rfl, ⟨none, 0, rfl, Nat.le_refl _, rfl, fun h => absurd h (by decide)⟩, .same h hu⟩
  · rw [e]
    refine (refTake_ok bm vL M lost w n x h hx).mono ?_
    rintro e w' ⟨v', vL', rfl, hn, ho, hL, hu⟩
    exact ⟨v', rfl, Reads.of_own ho, .less hn hL hu⟩
theorem refSpoil_any (i at_ : Int) (mask : UInt8) (h : RefP w bm vL M lost) :
    Calls Try.prog 25 #[.pointer (some ⟨bm, 0, none⟩), .int .i64 i, .int .i64 at_, .int .u8 mask.toNat] w fun e w' => e = .returned (.int .i64 (sSpoil (pclsOf M) i at_ mask).1) ∧ RefStep w bm vL M (sSpoil (pclsOf M) i at_ mask).2 lost w' := by
  unfold sSpoil
  rcases pAt_cases M i with ⟨e, hi⟩ | ⟨n, x, rfl, hx, e⟩
  · rw [e]
    refine (refSpoil_range bm vL M lost w i at_ mask h hi).mono ?_
    rintro e w' ⟨rfl, rfl⟩
    exact ⟨rfl, .same h (Upd.refl _ _)⟩
  · rw [e]
    simp only []
    by_cases hb : at_ < 0 ∨ (x.1.body.length : Int) ≤ at_ ∨ mask = 0
    · rw [if_pos hb]
      refine (refSpoil_bad bm vL M lost w n x at_ mask h hx hb).mono ?_
      rintro e w' ⟨rfl, rfl⟩
      exact ⟨rfl, .same h (Upd.refl _ _)⟩
    · rw [if_neg hb]
      simp only [not_or] at hb
      obtain ⟨k, rfl⟩ := Int.eq_ofNat_of_zero_le (show 0 ≤ at_ by omega)
      have hk : k < x.1.body.length := by omega
      rw [Int.toNat_natCast, Int.toNat_natCast]
      by_cases hs : x.1.spoilt = true
      · rw [if_pos hs]
        refine (refSpoil_state bm vL M lost w n x k mask h hx hk hb.2.2 hs).mono ?_
        rintro e w' ⟨rfl, rfl⟩
        exact ⟨rfl, .same h (Upd.refl _ _)⟩
      · rw [if_neg hs]
        have hg : x.1.body[k]? = some (x.1.body.getD k 0) := by rw [List.getElem?_eq_getElem hk, List.getD_eq_getElem?_getD, List.getElem?_eq_getElem hk]; rfl
        refine (refSpoil_ok bm vL M lost w n x k mask _ h hx hg hb.2.2 (by simpa using hs)).mono ?_
        rintro e w' ⟨rfl, hn, hu⟩
        refine ⟨rfl, _, _, hn, set_pcls _ _ _, fun j hj => ?_, hu.mono fun j _ h => ?_⟩
        · rcases hj with hj | hj | ⟨y, hy, hj⟩
          · exact .inl (.inl hj)
          · exact .inl (.inr (.inl hj))
          · rcases List.mem_or_eq_of_mem_set hy with hy | rfl
            · exact .inl (.inr (.inr ⟨y, hy, hj⟩))
            · exact .inl (.inr (.inr ⟨x, List.mem_of_getElem? hx, hj⟩))
        · rcases h with h | h
          · exact .inr (.inl h)
          · exact .inr (.inr ⟨x, List.mem_of_getElem? hx, h⟩)
end

/-- The two nets side by side. -/
structure Play (w : World) (bn c bm : Nat) (vL : Value) (L M : Pcls) (lost : Int) (wr : World) : Prop where
  below : Below w.heap.size w wr
  net : NetP wr bn c L lost
  ref : RefP wr bm vL M lost
  same : pclsOf L = pclsOf M
  apart : ∀ j, foot bn c L j → ¬ rfoot bm vL M j
  new1 : ∀ j, foot bn c L j → w.heap.size ≤ j
  new2 : ∀ j, rfoot bm vL M j → w.heap.size ≤ j

section
variable {w wr w1 w2 : World} {bn c bm : Nat} {vL : Value} {L M : Pcls} {lost lost' : Int} {ps : List Pcl}
/-- Memory is made beside them. -/
theorem Play.upd {F : Nat → Prop} (h : Play w bn c bm vL L M lost wr) (hu : Upd F wr w1) (hF : ∀ k, F k → w.heap.size ≤ k) (h1 : ∀ k, foot bn c L k → ¬ F k) (h2 : ∀ k, rfoot bm vL M k → ¬ F k) : Play w bn c bm vL L M lost w1 :=
  ⟨Upd.onto h.below hu hF h.below.size, h.net.upd hu h1, h.ref.upd hu h2, h.same, h.apart, h.new1, h.new2⟩
theorem Play.upd0 (h : Play w bn c bm vL L M lost wr) (hu : Upd Nowhere wr w1) : Play w bn c bm vL L M lost w1 := h.upd hu (fun _ h => h.elim) (fun _ _ => id) fun _ _ => id
/-- One call of each, the net's first. -/
theorem Play.both (h : Play w bn c bm vL L M lost wr) (s1 : NetStep wr bn c L ps lost' w1) (s2 : RefStep w1 bm vL M ps lost' w2) : ∃ vL' L' M', Play w bn c bm vL' L' M' lost' w2 := by
  obtain ⟨L', n1, e1, f1, u1⟩ := s1
  obtain ⟨vL', M', r2, e2, f2, u2⟩ := s2
  have hs1 := u1.size
  have hn2 : ∀ k, foot bn c L' k → ¬ rfoot bm vL M k := fun k hk hr => by
    rcases f1 k hk with h' | h'
    · exact h.apart k h' hr
    · have := h.ref.lt hr
      omega
  have hl1 : ∀ k, foot bn c L' k → w.heap.size ≤ k := fun k hk => by
    rcases f1 k hk with h' | h'
    · exact h.new1 k h'
    · have := h.below.size
      omega
  have hb1 := Upd.onto h.below u1 h.new1 h.below.size
  refine ⟨vL', L', M', Upd.onto hb1 u2 h.new2 hb1.size, n1.upd u2 hn2, r2, e1.trans e2.symm, fun k hk hr => ?_, hl1, fun k hk => ?_⟩
  · rcases f2 k hr with h' | h'
    · exact hn2 k hk h'
    · have := n1.lt hk
      omega
  · rcases f2 k hk with h' | h'
    · exact h.new2 k h'
    · have := hb1.size
      omega
/-- The reference's net between the two calls. -/
theorem Play.mid (h : Play w bn c bm vL L M lost wr) (s1 : NetStep wr bn c L ps lost' w1) : RefP w1 bm vL M lost ∧ Below w.heap.size w w1 := by
  obtain ⟨L', n1, e1, f1, u1⟩ := s1
  exact ⟨h.ref.upd u1 fun k hk hf => h.apart k hf hk, Upd.onto h.below u1 h.new1 h.below.size⟩
end
end Go.Proofs.Ytnlidhclieipiaa
