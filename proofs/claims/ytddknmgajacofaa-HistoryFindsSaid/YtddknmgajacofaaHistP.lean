/-
  History: a map of strings told by a function is one of the library's own maps: its keys.
-/
import Derived.Test.YtddknmgajacofaaMapM
import Derived.Sort.KeysCollected
namespace Go.Proofs.Ytddknmgajacofaa
open Go Go.RowKit Go.MapKept

abbrev anyElem : Value → Option (DataW Unit × List MemPlace) := fun _ => some (.lit (.bool true), [])
theorem MapIs.owns {P : Program} {k : TypeId} (hP : P.underlying k = some .string) {w : World} {b : Nat} {f : List UInt8 → Option Value} (h : MapIs (fun s : List UInt8 => .string ⟨s.toArray⟩) w b f)
    (hl : ∀ a v, f a = some v → a.length ≤ maxLen) (hn : ∀ ks : List (List UInt8), ks.Nodup → (∀ a, a ∈ ks ↔ f a ≠ none) → ks.length ≤ maxLen) :
    ∃ (nn : Nat) (D0 : DataW Unit) (ks : List (List UInt8)), w.ownsMap P k anyElem b nn D0 ∧ (strKeys D0).Perm ks ∧ ks.Nodup ∧ (∀ a, a ∈ ks ↔ f a ≠ none) ∧ Maps.size D0 = ks.length := by
  obtain ⟨es, ck, h1, h2, h3, h4⟩ := h
  have hkey : ∀ e ∈ es.toList, ∃ a : List UInt8, e.key = .string ⟨a.toArray⟩ ∧ a.length ≤ maxLen ∧ WideElems.rg (H := Unit) P k anyElem e = (.string a, .lit (.bool true)) ∧ WideElems.rd (H := Unit) P k anyElem e = some (.string a, .lit (.bool true)) := fun e he => by
    obtain ⟨a, ha⟩ := h3 e he
    have hla := hl a e.val ((h4 a e.val).2 ⟨e, he, ha, rfl⟩)
    have hr : WideElems.rd (H := Unit) P k anyElem e = some (.string a, .lit (.bool true)) := by
      unfold WideElems.rd
      rw [ha]
      have : keyOf P k (.string ⟨a.toArray⟩) = some (.string a) := by
        simp [keyOf, hP, mapKey, hla, ByteArray.size]
      rw [this]
      rfl
    exact ⟨a, ha, hla, by unfold WideElems.rg; rw [hr]; rfl, hr⟩
  have hks : (es.toList.map fun e => strOf (WideElems.rg (H := Unit) P k anyElem e).1).Nodup := by
    have hnd : (es.toList.map (·.key)).Nodup := h2.2.2
    refine List.pairwise_map.2 ((List.pairwise_map.1 hnd).imp_of_mem fun {p q} hp hq hne e => hne ?_)
    obtain ⟨a, e1, _, e2, _⟩ := hkey p hp
    obtain ⟨c, e3, _, e4, _⟩ := hkey q hq
    rw [e2, e4] at e
    have : a = c := e
    rw [e1, e3, this]
  have hm : ∀ a, a ∈ (es.toList.map fun e => strOf (WideElems.rg (H := Unit) P k anyElem e).1) ↔ f a ≠ none := fun a => by
    rw [List.mem_map]
    constructor
    · rintro ⟨e, he, rfl⟩
      obtain ⟨c, e1, _, e2, _⟩ := hkey e he
      rw [e2]
      have := (h4 c e.val).2 ⟨e, he, e1, rfl⟩
      show f c ≠ none
      rw [this]; simp
    · intro hne
      cases hf : f a with
      | none => exact absurd hf hne
      | some v =>
        obtain ⟨e, he, e1, e2⟩ := (h4 a v).1 hf
        obtain ⟨c, e3, _, e4, _⟩ := hkey e he
        refine ⟨e, he, ?_⟩
        rw [e4]
        rw [e1] at e3
        have : a = c := by simpa using e3
        exact this.symm
  have hlen := hn _ hks hm
  have hp := WideShapes.sorted_perm (es.toList.map (WideElems.rg (H := Unit) P k anyElem))
  refine ⟨es.size, _, _, ⟨es, ck, h1, ⟨by simpa using hlen, h2, fun x hx => ?_⟩, Nat.le_refl _, rfl⟩, ?_, hks, hm, ?_⟩
  · obtain ⟨a, _, _, _, e⟩ := hkey x hx
    exact ⟨_, e⟩
  · show (List.map (fun p : Lit × DataW Unit => strOf p.1) _).Perm _
    refine (hp.map _).trans (List.Perm.of_eq ?_)
    rw [List.map_map]; rfl
  · show List.length _ = _
    rw [hp.length_eq]; simp
end Go.Proofs.Ytddknmgajacofaa
