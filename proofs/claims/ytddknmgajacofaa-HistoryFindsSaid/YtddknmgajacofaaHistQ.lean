/-
  History: a map from keys to values holds what a list of cells holds; its keys sorted.
-/
import Derived.Test.YtddknmgajacofaaHistM
import Derived.Test.YtddknmgajacofaaHistP
import Derived.Test.YtddknmgajacofaaRowK
import Derived.Test.YtddknmgajacofaaKeysY
namespace Go.Proofs.Ytddknmgajacofaa
open Go Go.RowKit Go.MapKept

abbrev encS (s : List UInt8) : Value := .string ⟨s.toArray⟩
abbrev keyC (s : List UInt8) : List Value := [encS s]
theorem KS : KeyEnc .string encS := keyStr
/-- The map's answers: what the list tells. -/
def valF (vals : List (Ky × Vl)) : Ky → Option Value := fun k => if k ∈ vals.map (·.1) then some (valV (valueOf vals k)) else none
theorem valF_set (vals : List (Ky × Vl)) (k : Ky) (v : Vl) (a : Ky) : putF (valF vals) k (some (valV v)) a = valF (setV vals k v) a := by
  unfold putF valF
  by_cases h : a = k
  · subst h
    rw [if_pos rfl, if_pos ((mem_set vals a v a).2 (.inl rfl)), valueOf_set, if_pos rfl]
  · rw [if_neg h]
    by_cases hm : a ∈ vals.map (·.1)
    · rw [if_pos hm, if_pos ((mem_set vals k v a).2 (.inr hm)), valueOf_set, if_neg (fun e => h e.symm)]
    · rw [if_neg hm, if_neg fun h' => by
        rcases (mem_set vals k v a).1 h' with h' | h'
        · exact h h'
        · exact hm h']
theorem valF_get (vals : List (Ky × Vl)) (k : Ky) : (valF vals k).getD (valV noV) = valV (valueOf vals k) := by
  unfold valF
  by_cases hm : k ∈ vals.map (·.1)
  · rw [if_pos hm]; rfl
  · rw [if_neg hm, valueOf_none fun p hp (e : p.1 = k) => hm (e ▸ List.mem_map_of_mem (f := fun x : Ky × Vl => x.1) hp)]; rfl
theorem valF_some {vals : List (Ky × Vl)} {a : Ky} {v : Value} (h : valF vals a = some v) : a ∈ vals.map (·.1) := by
  unfold valF at h
  split at h
  · assumption
  · cases h
theorem valF_iff {vals : List (Ky × Vl)} {a : Ky} : valF vals a ≠ none ↔ a ∈ vals.map (·.1) := by
  unfold valF
  split <;> simp_all
theorem rising_nodup {vals : List (Ky × Vl)} (h : Rising vals) : (vals.map (·.1)).Nodup := List.pairwise_map.2 (List.Pairwise.imp (fun h e => by rw [e] at h; exact ky_irrefl _ h) h)

theorem hkeys_ok (w : World) (b : Nat) : Calls Try.prog 38 #[.map (some b)] w fun e w' => e = .returned (.func (.func 52) #[] #[.pointer (some ⟨w.heap.size, 0, none⟩)]) ∧ w' = w.alloc (.cells #[.map (some b)] 76) :=
  callsIn_wide.1 (Try.maps_Keys_38 (some b) w)

theorem hsorted_ok {w : World} {b : Nat} {vals : List (Ky × Vl)} (h : MapIs encS w b (valF vals)) (hr : Rising vals) (hk : ∀ p ∈ vals, p.1.length ≤ maxLen) (hl : vals.length ≤ 5000) :
    Calls Try.prog 37 #[.func (.func 52) #[] #[.pointer (some ⟨w.heap.size, 0, none⟩)]] (w.alloc (.cells #[.map (some b)] 76)) fun e w' => ∃ v, e = .returned v ∧ OwnR 9 keyC 1 w.heap.size w' v (vals.map (·.1)) ∧ Upd Nowhere (w.alloc (.cells #[.map (some b)] 76)) w' := by
  have hnd := rising_nodup hr
  have hlen : ∀ ks : List (List UInt8), ks.Nodup → (∀ a, a ∈ ks ↔ valF vals a ≠ none) → ks.length = vals.length := fun ks hks hm => by
    have hp : ks.Perm (vals.map (·.1)) := (List.perm_ext_iff_of_nodup hks hnd).2 fun a => (hm a).trans valF_iff
    rw [hp.length_eq, List.length_map]
  obtain ⟨nn, D0, ks, hown, hperm, hks, hm, hsz⟩ := h.owns (P := Try.prog) (k := 9) Try.underlying9 (fun a v hv => by
    obtain ⟨p, hp, rfl⟩ := List.mem_map.1 (valF_some hv)
    exact hk p hp) (fun ks hks hm => by rw [hlen ks hks hm]; exact Nat.le_trans hl (by decide))
  have hle := hlen ks hks hm
  refine (callsIn_wide.1 (Try.slices_Sorted_keys_37_38 b nn D0 anyElem w hown (by rw [hsz, hle]; exact Nat.le_trans hl (by decide)) (by rw [hsz, hle]; omega))).mono ?_
  rintro e w' ⟨v, ss, rfl, hS, hrow, hnil, hb⟩
  have hss : ss.mergeSort (fun x y => decide (x ≤ y)) = vals.map (·.1) := sorted_keys ((hS.trans hperm).nodup_iff.2 hks) hr fun k => by
    rw [(hS.trans hperm).mem_iff, hm, valF_iff]
  have hsl : ss.length = (vals.map (·.1)).length := by rw [← hss, List.length_mergeSort]
  rw [hss, hsl] at hrow
  refine ⟨v, rfl, ⟨?_, fun k hk => ?_⟩, Upd.ofBelow hb _⟩
  · have e : (vals.map (·.1)).map encStr = (vals.map (·.1)).flatMap keyC := by
      rw [List.flatMap_def]
      induction vals.map (·.1) with
      | nil => rfl
      | cons a L ih => simp only [List.map_cons, List.flatten_cons, ← ih]; rfl
    rw [← e]
    exact own_base hrow 0 fun _ _ => Nat.zero_le _
  · have := (hrow.lt k hk).1
    simp at this; omega
end Go.Proofs.Ytddknmgajacofaa
