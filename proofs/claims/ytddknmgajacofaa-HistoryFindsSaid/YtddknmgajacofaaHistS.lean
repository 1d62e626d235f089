/-
  History: of the replayed values: their keys rise, and are the events' own.
-/
import Derived.Test.YtddknmgajacofaaHistM
import Derived.Test.YtddknmgajacofaaHistQ
namespace Go.Proofs.Ytddknmgajacofaa
open Go Go.RowKit

theorem stN_rising {l : List EvD} {o : List Int} : ∀ {k : Nat} {vals : List (Ky × Vl)}, stN l o k = some vals → Rising vals
  | 0, _, h => by cases h; exact List.Pairwise.nil
  | k + 1, vals, h => by
    simp only [stN] at h
    cases h1 : stN l o k with
    | none => rw [h1] at h; cases h
    | some v1 =>
      rw [h1] at h
      have h2 := stN_rising h1
      simp only [Option.bind_some] at h
      split at h
      · split at h
        · cases h; exact h2
        · exact runL_rising h2 h
      · cases h; exact h2
def KeysOK (vals : List (Ky × Vl)) : Prop := ∀ k ∈ vals.map (·.1), k.length ≤ maxLen
theorem runE_keys {vals v' : List (Ky × Vl)} {e : EvD} (h : KeysOK vals) (he : e.ky.length ≤ maxLen) (hr : runE vals e = some v') : KeysOK v' := by
  unfold runE at hr
  split at hr
  · cases hr
    intro k hk
    rcases (mem_set vals e.ky e.vl k).1 hk with rfl | hk
    · exact he
    · exact h k hk
  · split at hr
    · cases hr; exact h
    · cases hr
theorem runL_keys : ∀ {a : List EvD} {vals v' : List (Ky × Vl)}, KeysOK vals → (∀ e ∈ a, e.ky.length ≤ maxLen) → runL a vals = some v' → KeysOK v'
  | [], _, _, h, _, hr => by cases hr; exact h
  | e :: a, vals, v', h, he, hr => by
    simp only [runL] at hr
    cases h1 : runE vals e with
    | none => rw [h1] at hr; cases hr
    | some v1 =>
      rw [h1] at hr
      exact runL_keys (runE_keys h (he e (List.mem_cons_self ..)) h1) (fun x hx => he x (List.mem_cons_of_mem _ hx)) hr
theorem txW_mem {l : List EvD} {t : Int} : ∀ {n : Nat} {e : EvD}, e ∈ txW l t n → e ∈ l
  | 0, _, h => by cases h
  | n + 1, e, h => by
    simp only [txW] at h
    split at h
    · rename_i x hx
      split at h
      · rcases List.mem_append.1 h with h | h
        · exact txW_mem h
        · simp at h; subst h; exact List.mem_of_getElem? hx
      · exact txW_mem h
    · exact txW_mem h
theorem stN_keys {l : List EvD} {o : List Int} (hl : ∀ e ∈ l, e.ky.length ≤ maxLen) : ∀ {k : Nat} {vals : List (Ky × Vl)}, stN l o k = some vals → KeysOK vals
  | 0, _, h => by cases h; intro k hk; cases hk
  | k + 1, vals, h => by
    simp only [stN] at h
    cases h1 : stN l o k with
    | none => rw [h1] at h; cases h
    | some v1 =>
      rw [h1] at h
      have h2 := stN_keys hl h1
      simp only [Option.bind_some] at h
      split at h
      · split at h
        · cases h; exact h2
        · exact runL_keys h2 (fun e he => hl e (txW_mem he)) h
      · cases h; exact h2
theorem KeysOK.mem {vals : List (Ky × Vl)} (h : KeysOK vals) : ∀ p ∈ vals, p.1.length ≤ maxLen := fun _ hp => h _ (List.mem_map_of_mem (f := fun x : Ky × Vl => x.1) hp)
/-- The transaction's events after the first k of the order: none where it has been there. -/
def leftG (l : List EvD) (o : List Int) (k : Nat) : Int → List EvD := fun t => if t ∈ o.take k then [] else txW l t l.length
theorem leftG_zero (l : List EvD) (o : List Int) (t : Int) : leftG l o 0 t = txW l t l.length := by simp [leftG]
theorem leftG_succ {l : List EvD} {o : List Int} {k : Nat} {t : Int} (h : o[k]? = some t) (x : Int) : (if x = t then [] else leftG l o k x) = leftG l o (k + 1) x := by
  unfold leftG
  rw [List.take_add_one, h]
  by_cases hx : x = t
  · subst hx; simp
  · simp [hx]
theorem stN_left {l : List EvD} {o : List Int} {k : Nat} {t : Int} {vals : List (Ky × Vl)} (h : stN l o k = some vals) (ht : o[k]? = some t) : stN l o (k + 1) = runL (leftG l o k t) vals := by
  unfold leftG
  split
  · rename_i h1; rw [stN_seen h ht h1]; rfl
  · rename_i h1; exact stN_new h ht h1
theorem leftG_len (l : List EvD) (o : List Int) (k : Nat) (t : Int) : (leftG l o k t).length ≤ l.length := by
  unfold leftG
  split
  · simp
  · exact txW_len _ _ _
theorem take_snoc {α : Type} {L : List α} {j : Nat} {e : α} (h : L[j]? = some e) : L.take (j + 1) = L.take j ++ [e] := by rw [List.take_add_one, h]; rfl
theorem runL_take_none {L : List EvD} {j : Nat} {vals : List (Ky × Vl)} (h : runL (L.take j) vals = none) : runL L vals = none := by
  have := runL_none_prefix (b := L.drop j) h
  rwa [List.take_append_drop] at this
theorem rkC : RowK Try.prog 37 83 cellC 3 := ⟨Try.underlying37, ⟨.agg #[.string ⟨#[]⟩, .bool false, .string ⟨#[]⟩], 40, by kernel_rfl, rfl, by decide⟩, cellC_len, fun a u hu => by
  simp only [cellC, List.mem_cons, List.not_mem_nil, or_false] at hu
  rcases hu with rfl | rfl | rfl <;> rfl, by decide⟩
theorem rising_value {vals : List (Ky × Vl)} (h : Rising vals) {k : Nat} {a : Ky} {v : Vl} (hp : vals[k]? = some (a, v)) : valueOf vals a = v := by
  refine valueOf_hit hp fun j p hj hq e => ?_
  have h1 := List.pairwise_iff_getElem.1 h j k (List.getElem?_eq_some_iff.1 hq).1 (List.getElem?_eq_some_iff.1 hp).1 hj
  rw [(List.getElem?_eq_some_iff.1 hq).2, (List.getElem?_eq_some_iff.1 hp).2, e] at h1
  exact ky_irrefl _ h1
end Go.Proofs.Ytddknmgajacofaa
