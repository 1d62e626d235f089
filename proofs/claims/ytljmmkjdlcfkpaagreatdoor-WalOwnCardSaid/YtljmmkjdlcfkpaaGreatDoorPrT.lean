/-
  The tables for regions of pure operations over records.
-/
import Derived.Test.YtljmmkjdlcfkpaaGreatDoorPr
import Derived.Test.YtljmmkjdlcfkpaaGreatDoorRows
namespace Go.Proofs.YtljmmkjdlcfkpaaGreatDoor
open Go Go.RowKit

theorem offB_mem {t i d : Nat} : ∀ {l : List (Nat × Nat × Nat)}, offB t i l = some d → (t, i, d) ∈ l := by
  intro l
  induction l with
  | nil => intro h; cases h
  | cons e l ih =>
    obtain ⟨t', i', d'⟩ := e
    intro h
    simp only [offB, cond_eq_ite] at h
    split at h
    · rename_i hb
      rw [Bool.and_eq_true, Nat.beq_eq, Nat.beq_eq] at hb
      obtain ⟨rfl, rfl⟩ := hb
      injection h with h
      subst h
      exact List.mem_cons_self
    · exact List.mem_cons_of_mem _ (ih h)
theorem memB_mem {t : Nat} : ∀ {l : List Nat}, memB t l = true → t ∈ l := by
  intro l
  induction l with
  | nil => intro h; cases h
  | cons e l ih =>
    intro h
    rw [memB, Bool.or_eq_true, Nat.beq_eq] at h
    rcases h with rfl | h
    · exact List.mem_cons_self
    · exact List.mem_cons_of_mem _ (ih h)
section
variable {P : Program}
theorem run_fieldAt {t i sz : Nat} {fs : Array Field} {f : Field} (hu : P.underlying t = some (.struct fs)) (hf : fs[i]? = some f) (hs : (P.info? f.type).map (·.size) = some sz) (h0 : sz ≠ 0) (w : World) (b off : Nat) :
    (Instr.fieldAt t (.pointer (some ⟨b, off, none⟩)) i).run P w = .ok (.pointer (some ⟨b, off + f.offset, none⟩)) w := by
  cases hq : P.info? f.type with
  | none => rw [hq] at hs; cases hs
  | some q =>
    rw [hq] at hs
    simp only [Option.map_some, Option.some.injEq] at hs
    have h1 : ¬ q.size = 0 := by omega
    have ha : (⟨b, off, none⟩ : Addr).add f.offset = ⟨b, off + f.offset, none⟩ := by unfold Addr.add; split <;> simp_all
    simp [Instr.fieldAt, run_underlying hu, hf, Instr.sureAddr, fieldPlace, sizeOf, typeInfo, hq, h1, ha]
theorem run_load1 {t : Nat} {d : TypeDesc} (hu : P.underlying t = some d) (hd : d.isRow = false) {w : World} {b off : Nat} {v : Value} (hc : w.cell? ⟨b, off, none⟩ = some v) : (Instr.loadAt t (.pointer (some ⟨b, off, none⟩))).run P w = .ok v w := by
  have hagg : (isAgg t).run P w = .ok false w := by
    unfold isAgg
    rw [Sem.run_bind, run_underlying hu w]
    cases d <;> simp_all [TypeDesc.isRow]
  simp [Instr.loadAt, Instr.sureAddr, loadVar, Sem.run_bind, hagg, load, Sem.run, hc]
end
/-! ### the tables -/
def foT : List (Nat × Nat × Nat) := [(38, 0, 0), (38, 1, 1), (38, 2, 2), (38, 3, 3), (38, 4, 4), (38, 5, 5), (38, 6, 7), (38, 7, 9), (38, 8, 10), (38, 9, 11), (38, 10, 12), (38, 11, 13), (38, 12, 14), (38, 13, 15), (223, 0, 0), (223, 1, 1), (223, 2, 2), (223, 3, 3), (223, 4, 4), (223, 5, 5), (223, 6, 6), (223, 7, 7), (223, 8, 8), (105, 0, 0), (105, 1, 1), (105, 2, 2), (105, 3, 3), (105, 4, 4), (105, 5, 5), (105, 6, 6), (105, 7, 7)]
theorem foT_ok (w : World) : ∀ t i d, offB t i foT = some d → ∀ b off, (Instr.fieldAt t (.pointer (some ⟨b, off, none⟩)) i).run Tryz.prog w = .ok (.pointer (some ⟨b, off + d, none⟩)) w := by
  intro t i d h
  have h := offB_mem h
  unfold foT at h
  simp only [List.mem_cons, List.not_mem_nil, or_false, Prod.mk.injEq] at h
  rcases h with ⟨rfl, rfl, rfl⟩ | ⟨rfl, rfl, rfl⟩ | ⟨rfl, rfl, rfl⟩ | ⟨rfl, rfl, rfl⟩ | ⟨rfl, rfl, rfl⟩ | ⟨rfl, rfl, rfl⟩ | ⟨rfl, rfl, rfl⟩ | ⟨rfl, rfl, rfl⟩ | ⟨rfl, rfl, rfl⟩ | ⟨rfl, rfl, rfl⟩ | ⟨rfl, rfl, rfl⟩ | ⟨rfl, rfl, rfl⟩ | ⟨rfl, rfl, rfl⟩ | ⟨rfl, rfl, rfl⟩ | ⟨rfl, rfl, rfl⟩ | ⟨rfl, rfl, rfl⟩ | ⟨rfl, rfl, rfl⟩ | ⟨rfl, rfl, rfl⟩ | ⟨rfl, rfl, rfl⟩ | ⟨rfl, rfl, rfl⟩ | ⟨rfl, rfl, rfl⟩ | ⟨rfl, rfl, rfl⟩ | ⟨rfl, rfl, rfl⟩ | ⟨rfl, rfl, rfl⟩ | ⟨rfl, rfl, rfl⟩ | ⟨rfl, rfl, rfl⟩ | ⟨rfl, rfl, rfl⟩ | ⟨rfl, rfl, rfl⟩ | ⟨rfl, rfl, rfl⟩ | ⟨rfl, rfl, rfl⟩ | ⟨rfl, rfl, rfl⟩
  · exact run_fieldAt (i := 0) (sz := 1) Tryz.underlying38 rfl (by kernel_rfl) (by omega) w
  · exact run_fieldAt (i := 1) (sz := 1) Tryz.underlying38 rfl (by kernel_rfl) (by omega) w
  · exact run_fieldAt (i := 2) (sz := 1) Tryz.underlying38 rfl (by kernel_rfl) (by omega) w
  · exact run_fieldAt (i := 3) (sz := 1) Tryz.underlying38 rfl (by kernel_rfl) (by omega) w
  · exact run_fieldAt (i := 4) (sz := 1) Tryz.underlying38 rfl (by kernel_rfl) (by omega) w
  · exact run_fieldAt (i := 5) (sz := 2) Tryz.underlying38 rfl (by kernel_rfl) (by omega) w
  · exact run_fieldAt (i := 6) (sz := 2) Tryz.underlying38 rfl (by kernel_rfl) (by omega) w
  · exact run_fieldAt (i := 7) (sz := 1) Tryz.underlying38 rfl (by kernel_rfl) (by omega) w
  · exact run_fieldAt (i := 8) (sz := 1) Tryz.underlying38 rfl (by kernel_rfl) (by omega) w
  · exact run_fieldAt (i := 9) (sz := 1) Tryz.underlying38 rfl (by kernel_rfl) (by omega) w
  · exact run_fieldAt (i := 10) (sz := 1) Tryz.underlying38 rfl (by kernel_rfl) (by omega) w
  · exact run_fieldAt (i := 11) (sz := 1) Tryz.underlying38 rfl (by kernel_rfl) (by omega) w
  · exact run_fieldAt (i := 12) (sz := 1) Tryz.underlying38 rfl (by kernel_rfl) (by omega) w
  · exact run_fieldAt (i := 13) (sz := 1) Tryz.underlying38 rfl (by kernel_rfl) (by omega) w
  · exact run_fieldAt (i := 0) (sz := 1) Tryz.underlying223 rfl (by kernel_rfl) (by omega) w
  · exact run_fieldAt (i := 1) (sz := 1) Tryz.underlying223 rfl (by kernel_rfl) (by omega) w
  · exact run_fieldAt (i := 2) (sz := 1) Tryz.underlying223 rfl (by kernel_rfl) (by omega) w
  · exact run_fieldAt (i := 3) (sz := 1) Tryz.underlying223 rfl (by kernel_rfl) (by omega) w
  · exact run_fieldAt (i := 4) (sz := 1) Tryz.underlying223 rfl (by kernel_rfl) (by omega) w
  · exact run_fieldAt (i := 5) (sz := 1) Tryz.underlying223 rfl (by kernel_rfl) (by omega) w
  · exact run_fieldAt (i := 6) (sz := 1) Tryz.underlying223 rfl (by kernel_rfl) (by omega) w
  · exact run_fieldAt (i := 7) (sz := 1) Tryz.underlying223 rfl (by kernel_rfl) (by omega) w
  · exact run_fieldAt (i := 8) (sz := 1) Tryz.underlying223 rfl (by kernel_rfl) (by omega) w
  · exact run_fieldAt (i := 0) (sz := 1) Tryz.underlying105 rfl (by kernel_rfl) (by omega) w
  · exact run_fieldAt (i := 1) (sz := 1) Tryz.underlying105 rfl (by kernel_rfl) (by omega) w
  · exact run_fieldAt (i := 2) (sz := 1) Tryz.underlying105 rfl (by kernel_rfl) (by omega) w
  · exact run_fieldAt (i := 3) (sz := 1) Tryz.underlying105 rfl (by kernel_rfl) (by omega) w
  · exact run_fieldAt (i := 4) (sz := 1) Tryz.underlying105 rfl (by kernel_rfl) (by omega) w
  · exact run_fieldAt (i := 5) (sz := 1) Tryz.underlying105 rfl (by kernel_rfl) (by omega) w
  · exact run_fieldAt (i := 6) (sz := 1) Tryz.underlying105 rfl (by kernel_rfl) (by omega) w
  · exact run_fieldAt (i := 7) (sz := 1) Tryz.underlying105 rfl (by kernel_rfl) (by omega) w
def ldT : List Nat := [3, 4, 9, 32, 33, 34, 35, 36]
theorem ldT_ok (w : World) : ∀ t, memB t ldT = true → ∀ b off v, w.cell? ⟨b, off, none⟩ = some v → (Instr.loadAt t (.pointer (some ⟨b, off, none⟩))).run Tryz.prog w = .ok v w := by
  intro t h b off v hc
  have h := memB_mem h
  unfold ldT at h
  simp only [List.mem_cons, List.not_mem_nil, or_false] at h
  rcases h with rfl | rfl | rfl | rfl | rfl | rfl | rfl | rfl
  · exact run_load1 Tryz.underlying3 rfl hc
  · exact run_load1 Tryz.underlying4 rfl hc
  · exact run_load1 Tryz.underlying9 rfl hc
  · exact run_load1 Tryz.underlying32 rfl hc
  · exact run_load1 Tryz.underlying33 rfl hc
  · exact run_load1 Tryz.underlying34 rfl hc
  · exact run_load1 Tryz.underlying35 rfl hc
  · exact run_load1 Tryz.underlying36 rfl hc
theorem l2T_ok (w : World) : ∀ t, memB t [31] = true → ∀ b off v v', w.cell? ⟨b, off, none⟩ = some v → w.cell? ⟨b, off + 1, none⟩ = some v' → (Instr.loadAt t (.pointer (some ⟨b, off, none⟩))).run Tryz.prog w = .ok (.agg #[v, v']) w := by
  intro t h b off v v' h1 h2
  have h := memB_mem h
  simp only [List.mem_cons, List.not_mem_nil, or_false] at h
  subst h
  exact run_loadAt_mid w b off 31 [v, v'] _ (fun j u hj => by
    match j, hj with
    | 0, hj => simp only [List.getElem?_cons_zero, Option.some.injEq] at hj; subst hj; exact h1
    | 1, hj => simp only [List.getElem?_cons_zero, List.getElem?_cons_succ, Option.some.injEq] at hj; subst hj; exact h2
    | n + 2, hj => simp at hj) Tryz.underlying31 rfl (by kernel_rfl)
def slT : List Nat := [32, 33, 34, 35, 36]
theorem slT_ok (w : World) : ∀ t, memB t slT = true → ∀ A n c ty, (Builtin.len_ #[t] ty #[.slice A n c]).run Tryz.prog w = .ok (.int .i64 (n : Int)) w := by
  intro t h A n c ty
  have h := memB_mem h
  unfold slT at h
  simp only [List.mem_cons, List.not_mem_nil, or_false] at h
  rcases h with rfl | rfl | rfl | rfl | rfl
  · simp [Builtin.len_, run_underlying Tryz.underlying32, goInt]
  · simp [Builtin.len_, run_underlying Tryz.underlying33, goInt]
  · simp [Builtin.len_, run_underlying Tryz.underlying34, goInt]
  · simp [Builtin.len_, run_underlying Tryz.underlying35, goInt]
  · simp [Builtin.len_, run_underlying Tryz.underlying36, goInt]
def recT (M : List (List SV)) : PTb := ⟨foT, ldT, [31], slT, M⟩
theorem recT_ok {β : Nat → Nat} {w : World} {M : List (List SV)} (hM : ∀ k l, nthB M k = some l → ∀ i s, nthB l i = some s → w.cell? ⟨β k, i, none⟩ = some (s.den β)) : (recT M).ok Tryz.prog β w := ⟨foT_ok w, ldT_ok w, l2T_ok w, slT_ok w, hM⟩
/-- A block known whole, as a table's row. -/
theorem row_tab {β : Nat → Nat} {w : World} {k t : Nat} {cs : Array Value} {l : List SV} (h : Blk w (β k) t cs) (hl : cs = (l.map (SV.den β)).toArray) : ∀ i s, nthB l i = some s → w.cell? ⟨β k, i, none⟩ = some (s.den β) := by
  intro i s hi
  rw [nthB_eq] at hi
  rw [h.cell i, hl]
  simp [hi]
end Go.Proofs.YtljmmkjdlcfkpaaGreatDoor
