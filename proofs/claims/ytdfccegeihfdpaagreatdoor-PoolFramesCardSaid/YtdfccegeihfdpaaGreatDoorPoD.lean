/-
  A page's bytes, and what is read of them (plain Lean, no program in sight).
-/
import Derived.Test.YtdfccegeihfdpaaGreatDoorPoB
namespace Go.Proofs.YtdfccegeihfdpaaGreatDoor

/-- A cell that may be. -/
structure CellOK (c : Ky × Vl) : Prop where
  ne : c.1 ≠ []
  key : c.1.length ≤ 16
  val : c.2.2.length ≤ 32
  has : c.2.1 = true ∨ c.2.2 = []
structure PgP where
  lsn : Nat
  cells : Cl
def pg0 : PgP := ⟨0, []⟩
structure PgP.ok (p : PgP) : Prop where
  lsn : p.lsn ≤ 1099511627776
  len : p.cells.length ≤ 4
  ris : RisC p.cells
  may : ∀ c ∈ p.cells, CellOK c
theorem pg0_ok : pg0.ok := ⟨by decide, by decide, List.Pairwise.nil, fun _ h => by cases h⟩
def cellB (c : Ky × Vl) : Bs := textB c.1 ++ (flagB c.2.1 ++ (if c.2.1 then textB c.2.2 else []))
def PgP.enc (p : PgP) : Bs := shortB p.lsn ++ (shortB p.cells.length ++ p.cells.flatMap cellB)
def payB (turn : Nat) (p : PgP) : Bs := shortB turn ++ p.enc
theorem shortB_1 {n : Nat} (h : n < 128) : (shortB n).length = 1 := by rw [shortB_small h]; rfl
theorem shortB_6 {n : Nat} (h : n ≤ 1099511627776) : (shortB n).length ≤ 6 := shortB_len_le (k := 5) (by omega)
theorem cellB_len {c : Ky × Vl} (h : CellOK c) : (cellB c).length ≤ 51 := by
  have h1 := h.key
  have h2 := h.val
  have h3 := shortB_1 (n := c.1.length) (by omega)
  have h4 := shortB_1 (n := c.2.2.length) (by omega)
  unfold cellB textB flagB
  split <;> simp <;> omega
theorem cells_len : ∀ (L : Cl), (∀ c ∈ L, CellOK c) → (L.flatMap cellB).length ≤ 51 * L.length
  | [], _ => by simp
  | c :: L, h => by
    have h1 := cells_len L fun c hc => h c (List.mem_cons_of_mem _ hc)
    have h2 := cellB_len (h c (List.mem_cons_self ..))
    rw [List.flatMap_cons, List.length_append, List.length_cons]
    omega
theorem PgP.enc_len {p : PgP} (h : p.ok) : p.enc.length ≤ 216 := by
  have h1 := cells_len p.cells h.may
  have h2 := h.len
  have h3 := shortB_6 h.lsn
  have h4 := shortB_1 (n := p.cells.length) (by omega)
  unfold PgP.enc
  simp only [List.length_append]
  omega
theorem payB_len {t : Nat} {p : PgP} (ht : t ≤ 1099511627776) (h : p.ok) : (payB t p).length ≤ 222 := by
  have h1 := PgP.enc_len h
  have h3 := shortB_6 ht
  unfold payB
  simp only [List.length_append]
  omega
/-- What is read of a cell's bytes. -/
theorem cell_key {c : Ky × Vl} (h : CellOK c) (r : Bs) : textR 16 (cellB c ++ r, 0) = (c.1, (flagB c.2.1 ++ ((if c.2.1 then textB c.2.2 else []) ++ r), 0)) := by
  unfold cellB
  rw [List.append_assoc, List.append_assoc]
  exact textR_text h.key (by omega) _
theorem cell_val {c : Ky × Vl} (h : CellOK c) (hh : c.2.1 = true) (r : Bs) : textR 32 ((if c.2.1 then textB c.2.2 else []) ++ r, 0) = (c.2.2, (r, 0)) := by
  rw [if_pos hh]
  exact textR_text h.val (by omega) _
theorem cell_not {c : Ky × Vl} (hh : c.2.1 = false) (r : Bs) : (if c.2.1 then textB c.2.2 else []) ++ r = r := by
  rw [if_neg (by rw [hh]; decide)]
  rfl
theorem CellOK.no {c : Ky × Vl} (h : CellOK c) (hh : c.2.1 = false) : c.2.2 = [] := by
  rcases h.has with e | e
  · rw [hh] at e; cases e
  · exact e
/-- What stands behind the first cells. -/
def restB (L : Cl) (k : Nat) (r : Bs) : Bs := (L.drop k).flatMap cellB ++ r
theorem restB_step {L : Cl} {k : Nat} {c : Ky × Vl} (h : L[k]? = some c) (r : Bs) : restB L k r = cellB c ++ restB L (k + 1) r := by
  obtain ⟨hk, e⟩ := List.getElem?_eq_some_iff.1 h
  unfold restB
  rw [List.drop_eq_getElem_cons hk, e, List.flatMap_cons, List.append_assoc]
theorem restB_end {L : Cl} (r : Bs) : restB L L.length r = r := by
  unfold restB
  rw [List.drop_length]
  rfl
theorem PgP.enc_rest (p : PgP) (r : Bs) : p.enc ++ r = shortB p.lsn ++ (shortB p.cells.length ++ restB p.cells 0 r) := by
  unfold PgP.enc restB
  rw [List.drop_zero]
  simp only [List.append_assoc]
theorem PgP.read_lsn {p : PgP} (h : p.ok) (r : Bs) : numR 1099511627776 (p.enc ++ r, 0) = (p.lsn, (shortB p.cells.length ++ restB p.cells 0 r, 0)) := by
  rw [PgP.enc_rest]
  exact numR_short h.lsn (by omega) _
theorem PgP.read_len {p : PgP} (h : p.ok) (r : Bs) : numR 4 (shortB p.cells.length ++ restB p.cells 0 r, 0) = (p.cells.length, (restB p.cells 0 r, 0)) :=
  numR_short h.len (by omega) _
/-- A page with another value of a key. -/
def PgP.set (p : PgP) (lsn : Nat) (k : Ky) (v : Vl) : PgP := ⟨lsn, setC p.cells k v⟩
theorem PgP.set_ok {p : PgP} (h : p.ok) {lsn : Nat} {k : Ky} {v : Vl} (hl : lsn ≤ 1099511627776) (hk : CellOK (k, v)) (hr : roomC 4 p.cells k) : (p.set lsn k v).ok :=
  ⟨hl, setC_room v h.ris h.len hr, setC_ris k v h.ris, fun c hc => by
    rcases setC_mem k v p.cells c hc with rfl | hc
    · exact hk
    · exact h.may c hc⟩
end Go.Proofs.YtdfccegeihfdpaaGreatDoor
