/-
  The document's pool, where it has no frames.
-/
import Derived.Test.YtdfccegeihfdpaaGreatDoorPgV
namespace Go.Proofs.YtdfccegeihfdpaaGreatDoor
open Go Go.RowKit

/-- A document's pool of no frames. -/
structure RefE (w : World) (q pages : Nat) (fo : Int) : Prop where
  ex : ∃ (most a b : Nat) (la ck : Int), Blk w q 91 #[.int .i64 (most : Nat), .slice none 0 0, .slice (some ⟨a, 0, none⟩) pages pages, .slice (some ⟨b, 0, none⟩) pages pages, .int .i64 la, .int .i64 fo, .int .i64 ck]
theorem RefNew.empty {lo : Nat} {w : World} {q pages most : Nat} (h : RefNew lo w q pages most) : RefE w q pages 0 := by
  obtain ⟨a, b, _, _, _, h1, _⟩ := h.ex
  exact ⟨most, a, b, 0, 0, h1⟩
theorem RefE.upd {F : Nat → Prop} {w w' : World} {q pages : Nat} {fo : Int} (h : RefE w q pages fo) (hu : Upd F w w') (hF : ¬ F q) : RefE w' q pages fo := by
  obtain ⟨most, a, b, la, ck, h1⟩ := h.ex
  exact ⟨most, a, b, la, ck, h1.upd hu hF⟩
theorem RefE.pool {bz : Nat} {w w' : World} {q pages : Nat} {fo : Int} (h : RefE w q pages fo) (hu : Upd (PoolF bz w) w w') : RefE w' q pages fo := by
  obtain ⟨most, a, b, la, ck, h1⟩ := h.ex
  exact ⟨most, a, b, la, ck, h1.upd hu (h1.noPool rfl)⟩
section
variable {w : World} {q pages : Nat} {fo : Int}
set_option maxRecDepth 100000 in
set_option maxHeartbeats 2000000 in
theorem rfind_e (h : RefE w q pages fo) (n : Int) : Calls Tryz.prog 97 #[.pointer (some ⟨q, 0, none⟩), .int .i64 n] w fun e w' => e = .returned (.int .i64 (-1)) ∧ w' = w := by
  obtain ⟨most, a, b, la, ck, h1⟩ := h.ex
  have c1 := h1.cell 1
  simp only [List.getElem?_toArray, List.getElem?_cons_zero, List.getElem?_cons_succ] at c1
  clear h h1
  go_enter Tryz.func97, Tryz.ntmps97
  go_wp2_with fail
  refine wp_loop_rounds 1 ?_
  rw [rounds_succ]
  go_wp2_with fail
  go_ret
  exact ⟨rfl, rfl⟩
def inR (pages : Nat) (n : Int) : Bool := decide (0 ≤ n) && decide (n < (pages : Nat))
set_option maxRecDepth 100000 in
set_option maxHeartbeats 2000000 in
theorem ris_e (h : RefE w q pages fo) (n : Int) : Calls Tryz.prog 138 #[.pointer (some ⟨q, 0, none⟩), .int .i64 n] w fun e w' => e = .returned (.bool (inR pages n)) ∧ w' = w := by
  obtain ⟨most, a, b, la, ck, h1⟩ := h.ex
  have c2 := h1.cell 2
  simp only [List.getElem?_toArray, List.getElem?_cons_zero, List.getElem?_cons_succ] at c2
  clear h h1
  unfold inR
  by_cases h0 : 0 ≤ n
  · go_enter Tryz.func138, Tryz.ntmps138
    go_wp2_with fail
    go_ret
    exact ⟨by rw [decide_eq_true h0]; rfl, rfl⟩
  · go_enter Tryz.func138, Tryz.ntmps138
    go_wp2_with fail
    go_ret
    exact ⟨by rw [decide_eq_false (by omega : ¬ 0 ≤ n)]; rfl, rfl⟩
def errR (pages : Nat) (n : Int) : Int := if inR pages n then 121 else 1
set_option maxRecDepth 100000 in
set_option maxHeartbeats 2000000 in
theorem rpinned_e (h : RefE w q pages fo) (n : Int) : Calls Tryz.prog 142 #[.pointer (some ⟨q, 0, none⟩), .int .i64 n] w fun e w' => e = .returned (.tuple #[.int .i64 0, .int .i64 (errR pages n)]) ∧ w' = w := by
  have H1 := Lib.hid (ris_e h n)
  have H2 := Lib.hid (rfind_e h n)
  unfold errR
  clear h
  cases hb : inR pages n with
  | true =>
    rw [hb] at H1
    clear hb
    go_enter Tryz.func142, Tryz.ntmps142
    go_wp2_with (first | (go_at_call 138; refine H1.out.mono ?_; rintro e w9 ⟨rfl, hw9⟩; obtain rfl : w = w9 := hw9.symm) | (go_at_call 97; refine H2.out.mono ?_; rintro e w9 ⟨rfl, hw9⟩; obtain rfl : w = w9 := hw9.symm))
    go_ret2
    exact ⟨rfl, rfl⟩
  | false =>
    rw [hb] at H1
    clear hb
    go_enter Tryz.func142, Tryz.ntmps142
    go_wp2_with (first | (go_at_call 138; refine H1.out.mono ?_; rintro e w9 ⟨rfl, hw9⟩; obtain rfl : w = w9 := hw9.symm) | (go_at_call 97; refine H2.out.mono ?_; rintro e w9 ⟨rfl, hw9⟩; obtain rfl : w = w9 := hw9.symm))
    go_ret2
    exact ⟨rfl, rfl⟩
set_option maxRecDepth 100000 in
set_option maxHeartbeats 2000000 in
theorem rflush_e (h : RefE w q pages fo) (n : Int) : Calls Tryz.prog 89 #[.pointer (some ⟨q, 0, none⟩), .int .i64 n] w fun e w' => e = .returned (.int .i64 (if inR pages n then 0 else 1)) ∧ w' = w := by
  have H1 := Lib.hid (ris_e h n)
  have H2 := Lib.hid (rfind_e h n)
  clear h
  cases hb : inR pages n with
  | true =>
    rw [hb] at H1
    clear hb
    go_enter Tryz.func89, Tryz.ntmps89
    go_wp2_with (first | (go_at_call 138; refine H1.out.mono ?_; rintro e w9 ⟨rfl, hw9⟩; obtain rfl : w = w9 := hw9.symm) | (go_at_call 97; refine H2.out.mono ?_; rintro e w9 ⟨rfl, hw9⟩; obtain rfl : w = w9 := hw9.symm))
    go_ret
    exact ⟨rfl, rfl⟩
  | false =>
    rw [hb] at H1
    clear hb
    go_enter Tryz.func89, Tryz.ntmps89
    go_wp2_with (first | (go_at_call 138; refine H1.out.mono ?_; rintro e w9 ⟨rfl, hw9⟩; obtain rfl : w = w9 := hw9.symm) | (go_at_call 97; refine H2.out.mono ?_; rintro e w9 ⟨rfl, hw9⟩; obtain rfl : w = w9 := hw9.symm))
    go_ret
    exact ⟨rfl, rfl⟩
theorem errR_ne (pages : Nat) (n : Int) : errR pages n = 121 ∨ errR pages n = 1 := by
  unfold errR
  split
  · exact .inl rfl
  · exact .inr rfl
set_option maxRecDepth 100000 in
set_option maxHeartbeats 2000000 in
theorem rchange_e (h : RefE w q pages fo) (n lsn : Int) (key : Bs) (vh : Bool) (vd : Bs) : Calls Tryz.prog 143 #[.pointer (some ⟨q, 0, none⟩), .int .i64 n, .int .i64 lsn, strV key, .agg #[.bool vh, strV vd]] w fun e w' => e = .returned (.int .i64 (errR pages n)) ∧ Upd Nowhere w w' := by
  have H1 := Lib.hid (rpinned_e (h.upd ((Upd.refl Nowhere w).alloc (.cells #[.bool vh, strV vd] 32)) id) n)
  have HU := Lib.hid ((Upd.refl Nowhere w).alloc (.cells #[.bool vh, strV vd] 32))
  obtain ⟨x, hx⟩ : ∃ x, errR pages n = x := ⟨_, rfl⟩
  have hne : x = 121 ∨ x = 1 := hx ▸ errR_ne pages n
  rw [hx] at H1 ⊢
  have hz : ¬ x = 0 := by omega
  clear h hx hne
  go_enter Tryz.func143, Tryz.ntmps143
  go_wp2_with (refine H1.out.mono ?_; rintro e w9 ⟨rfl, hw9⟩; obtain rfl := hw9.symm)
  go_ret
  exact ⟨rfl, HU.out⟩
set_option maxRecDepth 100000 in
set_option maxHeartbeats 2000000 in
theorem rpage_e (h : RefE w q pages fo) (n : Int) : Calls Tryz.prog 91 #[.pointer (some ⟨q, 0, none⟩), .int .i64 n] w fun e w' => e = .returned (.tuple #[.agg #[.int .i64 0, .slice none 0 0], .int .i64 (errR pages n)]) ∧ Upd Nowhere w w' := by
  have H1 := Lib.hid (rpinned_e (h.upd ((Upd.refl Nowhere w).alloc (.cells #[.int .i64 0, .slice none 0 0] 72)) id) n)
  have HU := Lib.hid ((Upd.refl Nowhere w).alloc (.cells #[.int .i64 0, .slice none 0 0] 72))
  obtain ⟨x, hx⟩ : ∃ x, errR pages n = x := ⟨_, rfl⟩
  have hne : x = 121 ∨ x = 1 := hx ▸ errR_ne pages n
  rw [hx] at H1 ⊢
  have hz : ¬ x = 0 := by omega
  have hb := Blk.new w 72 #[.int .i64 0, .slice none 0 0]
  have c0 := hb.cell 0
  have c1 := hb.cell 1
  have f0 := hb.frozen 0
  have f1 := hb.frozen 1
  simp only [List.getElem?_toArray, List.getElem?_cons_zero, List.getElem?_cons_succ] at c0 c1
  clear h hx hne hb
  go_enter Tryz.func91, Tryz.ntmps91
  go_wp2_with (refine H1.out.mono ?_; rintro e w9 ⟨rfl, hw9⟩; obtain rfl := hw9.symm)
  refine bodyPost_ret (v := .tuple #[.agg #[.int .i64 0, .slice none 0 0], .int .i64 x]) (by simp [results, Tryz.results91, go_sem, c0, c1]) rfl ⟨rfl, HU.out⟩
end
end Go.Proofs.YtdfccegeihfdpaaGreatDoor
