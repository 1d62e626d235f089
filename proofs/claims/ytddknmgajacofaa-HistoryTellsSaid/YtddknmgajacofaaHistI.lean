/-
  History: what is replayed, as a plain fold over a transaction's works.
-/
import Derived.Test.YtddknmgajacofaaHistD
namespace Go.Proofs.Ytddknmgajacofaa
open Go Go.RowKit

def EvD.ky (e : EvD) : Ky := e.key.data.toList
def EvD.vl (e : EvD) : Vl := (e.has, e.data)
theorem EvD.ky_key (e : EvD) : (⟨e.ky.toArray⟩ : ByteArray) = e.key := by simp [EvD.ky]
/-- One read or write; none: a read is not right. -/
def runE (vals : List (Ky × Vl)) (e : EvD) : Option (List (Ky × Vl)) := if e.kind = 2 then some (setV vals e.ky e.vl) else if valueOf vals e.ky = e.vl then some vals else none
def runL : List EvD → List (Ky × Vl) → Option (List (Ky × Vl))
  | [], vals => some vals
  | e :: r, vals => (runE vals e).bind (runL r)
theorem runL_append (a b : List EvD) (vals : List (Ky × Vl)) : runL (a ++ b) vals = (runL a vals).bind (runL b) := by
  induction a generalizing vals with
  | nil => rfl
  | cons e a ih =>
    simp only [List.cons_append, runL]
    cases runE vals e with
    | none => rfl
    | some v => exact ih v
/-- A transaction's works among the first n events. -/
def txW (l : List EvD) (t : Int) : Nat → List EvD
  | 0 => []
  | n + 1 => match l[n]? with
    | some e => if e.tx = t ∧ wkOf l e n = true then txW l t n ++ [e] else txW l t n
    | none => txW l t n
/-- Transactions one behind the other, each once. -/
def replL (l : List EvD) : List Int → List Int → List (Ky × Vl) → Option (List (Ky × Vl))
  | [], _, vals => some vals
  | t :: o, done, vals => if t ∈ done then replL l o done vals else (runL (txW l t l.length) vals).bind (replL l o (done ++ [t]))
theorem txW_hit {l : List EvD} {t : Int} {n : Nat} {e : EvD} (h : l[n]? = some e) (h1 : e.tx = t) (h2 : wkOf l e n = true) : txW l t (n + 1) = txW l t n ++ [e] := by simp [txW, h, h1, h2]
theorem txW_miss {l : List EvD} {t : Int} {n : Nat} {e : EvD} (h : l[n]? = some e) (h1 : ¬ (e.tx = t ∧ wkOf l e n = true)) : txW l t (n + 1) = txW l t n := by simp only [txW, h, if_neg h1]
theorem runE_rising {vals v' : List (Ky × Vl)} {e : EvD} (h : Rising vals) (hr : runE vals e = some v') : Rising v' := by
  unfold runE at hr
  split at hr
  · cases hr; exact set_rising h _ _
  · split at hr
    · cases hr; exact h
    · cases hr
theorem runL_rising : ∀ {a : List EvD} {vals v' : List (Ky × Vl)}, Rising vals → runL a vals = some v' → Rising v'
  | [], _, _, h, hr => by cases hr; exact h
  | e :: a, vals, v', h, hr => by
    simp only [runL] at hr
    cases h1 : runE vals e with
    | none => rw [h1] at hr; cases hr
    | some v1 =>
      rw [h1] at hr
      exact runL_rising (runE_rising h h1) hr
theorem replL_rising (l : List EvD) : ∀ {o done : List Int} {vals v' : List (Ky × Vl)}, Rising vals → replL l o done vals = some v' → Rising v'
  | [], _, _, _, h, hr => by cases hr; exact h
  | t :: o, done, vals, v', h, hr => by
    simp only [replL] at hr
    split at hr
    · exact replL_rising l h hr
    · cases h1 : runL (txW l t l.length) vals with
      | none => rw [h1] at hr; cases hr
      | some v1 =>
        rw [h1] at hr
        exact replL_rising l (runL_rising h h1) hr
end Go.Proofs.Ytddknmgajacofaa
