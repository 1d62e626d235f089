/-
  A record that came in, opened: its cells, and what lies in its lists.
-/
import Derived.Test.YtbmedcghekgjnaaGreatDoorOpen
import Derived.Test.YtbmedcghekgjnaaGreatDoorWalGreat
namespace Go.Proofs.YtbmedcghekgjnaaGreatDoor
open Go Go.ChangeShapes Go.WideShapes Go.ChangeAt Go.RowKit

section
variable {H : Type} {enc : TypeId × Value → H} {P : Program} {W : World} {base : Nat} {sp : Nat → Bool} {held : Bool}
theorem trod_fields2 {t : TypeId} {f0 f1 : Field} {fuel : Nat} {cs : List Value} {x : DataW H × List MemPlace} (ht : P.underlying t = some (.struct #[f0, f1])) (h : DataW.trod enc P W base sp held fuel t cs = some x) :
    (∃ y n, DataW.trod enc P W base sp held n f0.type ((cs.drop f0.offset).take (P.cellsOf f0.type)) = some y) ∧
      (∃ y n, DataW.trod enc P W base sp held n f1.type ((cs.drop f1.offset).take (P.cellsOf f1.type)) = some y) := by
  obtain ⟨xs, n, _, rfl, hl, hlen, hf⟩ := DataW.trod_struct ht h
  match xs, hlen with
  | [y0, y1], _ => exact ⟨⟨y0, n, by simpa using hf 0 f0 rfl⟩, ⟨y1, n, by simpa using hf 1 f1 rfl⟩⟩
theorem trod_fields8 {t : TypeId} {f0 f1 f2 f3 f4 f5 f6 f7 : Field} {fuel : Nat} {cs : List Value} {x : DataW H × List MemPlace} (ht : P.underlying t = some (.struct #[f0, f1, f2, f3, f4, f5, f6, f7])) (h : DataW.trod enc P W base sp held fuel t cs = some x) :
    (∃ y n, DataW.trod enc P W base sp held n f0.type ((cs.drop f0.offset).take (P.cellsOf f0.type)) = some y) ∧
      (∃ y n, DataW.trod enc P W base sp held n f1.type ((cs.drop f1.offset).take (P.cellsOf f1.type)) = some y) ∧
      (∃ y n, DataW.trod enc P W base sp held n f2.type ((cs.drop f2.offset).take (P.cellsOf f2.type)) = some y) ∧
      (∃ y n, DataW.trod enc P W base sp held n f3.type ((cs.drop f3.offset).take (P.cellsOf f3.type)) = some y) ∧
      (∃ y n, DataW.trod enc P W base sp held n f4.type ((cs.drop f4.offset).take (P.cellsOf f4.type)) = some y) ∧
      (∃ y n, DataW.trod enc P W base sp held n f5.type ((cs.drop f5.offset).take (P.cellsOf f5.type)) = some y) ∧
      (∃ y n, DataW.trod enc P W base sp held n f6.type ((cs.drop f6.offset).take (P.cellsOf f6.type)) = some y) ∧
      (∃ y n, DataW.trod enc P W base sp held n f7.type ((cs.drop f7.offset).take (P.cellsOf f7.type)) = some y) := by
  obtain ⟨xs, n, _, rfl, hl, hlen, hf⟩ := DataW.trod_struct ht h
  match xs, hlen with
  | [y0, y1, y2, y3, y4, y5, y6, y7], _ => exact ⟨⟨y0, n, by simpa using hf 0 f0 rfl⟩, ⟨y1, n, by simpa using hf 1 f1 rfl⟩, ⟨y2, n, by simpa using hf 2 f2 rfl⟩, ⟨y3, n, by simpa using hf 3 f3 rfl⟩, ⟨y4, n, by simpa using hf 4 f4 rfl⟩, ⟨y5, n, by simpa using hf 5 f5 rfl⟩, ⟨y6, n, by simpa using hf 6 f6 rfl⟩, ⟨y7, n, by simpa using hf 7 f7 rfl⟩⟩
theorem trod_fields14 {t : TypeId} {f0 f1 f2 f3 f4 f5 f6 f7 f8 f9 f10 f11 f12 f13 : Field} {fuel : Nat} {cs : List Value} {x : DataW H × List MemPlace} (ht : P.underlying t = some (.struct #[f0, f1, f2, f3, f4, f5, f6, f7, f8, f9, f10, f11, f12, f13])) (h : DataW.trod enc P W base sp held fuel t cs = some x) :
    (∃ y n, DataW.trod enc P W base sp held n f0.type ((cs.drop f0.offset).take (P.cellsOf f0.type)) = some y) ∧
      (∃ y n, DataW.trod enc P W base sp held n f1.type ((cs.drop f1.offset).take (P.cellsOf f1.type)) = some y) ∧
      (∃ y n, DataW.trod enc P W base sp held n f2.type ((cs.drop f2.offset).take (P.cellsOf f2.type)) = some y) ∧
      (∃ y n, DataW.trod enc P W base sp held n f3.type ((cs.drop f3.offset).take (P.cellsOf f3.type)) = some y) ∧
      (∃ y n, DataW.trod enc P W base sp held n f4.type ((cs.drop f4.offset).take (P.cellsOf f4.type)) = some y) ∧
      (∃ y n, DataW.trod enc P W base sp held n f5.type ((cs.drop f5.offset).take (P.cellsOf f5.type)) = some y) ∧
      (∃ y n, DataW.trod enc P W base sp held n f6.type ((cs.drop f6.offset).take (P.cellsOf f6.type)) = some y) ∧
      (∃ y n, DataW.trod enc P W base sp held n f7.type ((cs.drop f7.offset).take (P.cellsOf f7.type)) = some y) ∧
      (∃ y n, DataW.trod enc P W base sp held n f8.type ((cs.drop f8.offset).take (P.cellsOf f8.type)) = some y) ∧
      (∃ y n, DataW.trod enc P W base sp held n f9.type ((cs.drop f9.offset).take (P.cellsOf f9.type)) = some y) ∧
      (∃ y n, DataW.trod enc P W base sp held n f10.type ((cs.drop f10.offset).take (P.cellsOf f10.type)) = some y) ∧
      (∃ y n, DataW.trod enc P W base sp held n f11.type ((cs.drop f11.offset).take (P.cellsOf f11.type)) = some y) ∧
      (∃ y n, DataW.trod enc P W base sp held n f12.type ((cs.drop f12.offset).take (P.cellsOf f12.type)) = some y) ∧
      (∃ y n, DataW.trod enc P W base sp held n f13.type ((cs.drop f13.offset).take (P.cellsOf f13.type)) = some y) := by
  obtain ⟨xs, n, _, rfl, hl, hlen, hf⟩ := DataW.trod_struct ht h
  match xs, hlen with
  | [y0, y1, y2, y3, y4, y5, y6, y7, y8, y9, y10, y11, y12, y13], _ => exact ⟨⟨y0, n, by simpa using hf 0 f0 rfl⟩, ⟨y1, n, by simpa using hf 1 f1 rfl⟩, ⟨y2, n, by simpa using hf 2 f2 rfl⟩, ⟨y3, n, by simpa using hf 3 f3 rfl⟩, ⟨y4, n, by simpa using hf 4 f4 rfl⟩, ⟨y5, n, by simpa using hf 5 f5 rfl⟩, ⟨y6, n, by simpa using hf 6 f6 rfl⟩, ⟨y7, n, by simpa using hf 7 f7 rfl⟩, ⟨y8, n, by simpa using hf 8 f8 rfl⟩, ⟨y9, n, by simpa using hf 9 f9 rfl⟩, ⟨y10, n, by simpa using hf 10 f10 rfl⟩, ⟨y11, n, by simpa using hf 11 f11 rfl⟩, ⟨y12, n, by simpa using hf 12 f12 rfl⟩, ⟨y13, n, by simpa using hf 13 f13 rfl⟩⟩
theorem trod_slice {t e : TypeId} {n : Nat} {v : Value} {y : DataW H × List MemPlace} (ht : P.underlying t = some (.slice e)) (h : DataW.trod enc P W base sp held n t [v] = some y) : ∃ A k c, v = .slice A k c := by
  rcases Deep.open_slice ht h with ⟨e2, _⟩ | ⟨a, len, cap, k, m, D, Pl, e2, _⟩
  · simp only [List.cons.injEq, and_true] at e2
    exact ⟨_, _, _, e2⟩
  · simp only [List.cons.injEq, and_true] at e2
    exact ⟨_, _, _, e2⟩
theorem trod_list {t e : TypeId} {n : Nat} {A : Option Addr} {k c : Nat} {y : DataW H × List MemPlace} (size : Nat) (hpos : 0 < size) (ht : P.underlying t = some (.slice e)) (hc : P.cellsOf e = size) {K : Nat → Value → Prop}
    (hE : ∀ n cs y, cs.length = size → DataW.trod enc P W base sp held n e cs = some y → ∀ j v, cs[j]? = some v → K j v) (h : DataW.trod enc P W base sp held n t [.slice A k c] = some y) : ListAt W size K A k := by
  obtain ⟨L, A', c', e1, _, _, hat⟩ := open_rows (E := fun cs (a : List Value) => a = cs ∧ ∀ j v, cs[j]? = some v → K j v) size hpos ht hc h fun n cs y hl hy => ⟨cs, rfl, hE n cs y hl hy⟩
  injection e1 with e1 e2 e3
  subst e1 e2
  intro hk
  obtain ⟨b, off, rfl, hb, hrow⟩ := hat hk
  refine ⟨b, off, rfl, hb, fun i hi j hj => ?_⟩
  obtain ⟨cs, hl, ⟨_, hK⟩, hcell⟩ := hrow i L[i] (List.getElem?_eq_getElem hi)
  have hv := List.getElem?_eq_getElem (show j < cs.length by omega)
  exact ⟨cs[j], hcell j _ hv, hK j _ hv⟩
end

set_option maxRecDepth 100000
section
variable {H : Type} {enc : TypeId × Value → H} {W : World} {base : Nat} {sp : Nat → Bool} {held : Bool}
theorem one_int : Tryz.prog.cellsOf 3 = 1 := by kernel_rfl
theorem one_str : Tryz.prog.cellsOf 9 = 1 := by kernel_rfl
theorem one_bool : Tryz.prog.cellsOf 4 = 1 := by kernel_rfl
theorem two_val : Tryz.prog.cellsOf 23 = 2 := by kernel_rfl
theorem one_ints : Tryz.prog.cellsOf 24 = 1 := by kernel_rfl
theorem one_locks : Tryz.prog.cellsOf 25 = 1 := by kernel_rfl
theorem one_rows : Tryz.prog.cellsOf 26 = 1 := by kernel_rfl
theorem one_dirty : Tryz.prog.cellsOf 27 = 1 := by kernel_rfl
theorem one_deeds : Tryz.prog.cellsOf 28 = 1 := by kernel_rfl
theorem two_lock : Tryz.prog.cellsOf 83 = 2 := by kernel_rfl
theorem eight_row : Tryz.prog.cellsOf 85 = 8 := by kernel_rfl
theorem two_deed : Tryz.prog.cellsOf 87 = 2 := by kernel_rfl

theorem sixteen_rec : Tryz.prog.cellsOf 30 = 16 := by kernel_rfl

theorem lock_cells {n : Nat} {cs : List Value} {y : DataW H × List MemPlace} (hl : cs.length = 2) (h : DataW.trod enc Tryz.prog W base sp held n 83 cs = some y) (j : Nat) (v : Value) (hv : cs[j]? = some v) : lockE j v := by
  rintro rfl
  match cs, hl with
  | [c0, c1], _ =>
    obtain ⟨⟨y0, m, h0⟩, _⟩ := trod_fields2 Tryz.underlying83 h
    simp only [one_str, List.drop_zero, List.take_succ_cons, List.take_zero] at h0
    obtain ⟨s, e, _, _⟩ := DataW.trod_string Tryz.underlying9 h0
    simp only [List.cons.injEq, and_true] at e
    simp at hv
    exact ⟨s, by rw [← hv, e]⟩
theorem row_cells {n : Nat} {cs : List Value} {y : DataW H × List MemPlace} (hl : cs.length = 8) (h : DataW.trod enc Tryz.prog W base sp held n 85 cs = some y) (j : Nat) (v : Value) (hv : cs[j]? = some v) : rowE j v := by
  match cs, hl with
  | [c0, c1, c2, c3, c4, c5, c6, c7], _ =>
    refine ⟨?_, ?_⟩
    · rintro rfl
      obtain ⟨_, _, _, _, _, _, ⟨y0, m, h0⟩, _⟩ := trod_fields8 Tryz.underlying85 h
      simp only [one_ints, List.drop_succ_cons, List.drop_zero, List.take_succ_cons, List.take_zero] at h0
      simp at hv
      rw [← hv]
      exact trod_slice Tryz.underlying24 h0
    · rintro rfl
      obtain ⟨_, _, _, _, _, _, _, ⟨y0, m, h0⟩⟩ := trod_fields8 Tryz.underlying85 h
      simp only [one_locks, List.drop_succ_cons, List.drop_zero, List.take_succ_cons, List.take_zero] at h0
      simp at hv
      rw [← hv]
      exact trod_slice Tryz.underlying25 h0
theorem deed_cells {n : Nat} {cs : List Value} {y : DataW H × List MemPlace} (hl : cs.length = 2) (h : DataW.trod enc Tryz.prog W base sp held n 87 cs = some y) (j : Nat) (v : Value) (hv : cs[j]? = some v) : deedE j v := by
  rintro rfl
  match cs, hl with
  | [c0, c1], _ =>
    obtain ⟨_, ⟨y0, m, h0⟩⟩ := trod_fields2 Tryz.underlying87 h
    simp only [one_ints, List.drop_succ_cons, List.drop_zero, List.take_succ_cons, List.take_zero] at h0
    simp at hv
    rw [← hv]
    exact trod_slice Tryz.underlying24 h0

/-- A record's cells. -/
theorem open_rec {r : Reach} {b0 : Nat} {v : Value} {d : DataW H} {p : List MemPlace} (hv : Value.okWide Tryz.prog W r b0 30 v) (h : DataW.Trod enc Tryz.prog W base sp held 30 v d p) :
    ∃ (k0 k1 k2 k3 co : Int) (key od nd : ByteArray) (oh nh : Bool) (Am : Option Addr) (nm cm : Nat) (Al : Option Addr) (nl cl : Nat) (Ar : Option Addr) (nr cr : Nat) (Ad : Option Addr) (nd' cd : Nat) (Ae : Option Addr) (ne ce : Nat) (Ap : Option Addr) (np cp : Nat),
      v = .agg #[.int .i64 k0, .int .i64 k1, .int .i64 k2, .int .i64 k3, .string key, .bool oh, .string od, .bool nh, .string nd, .int .i64 co, .slice Am nm cm, .slice Al nl cl, .slice Ar nr cr, .slice Ad nd' cd, .slice Ae ne ce, .slice Ap np cp] ∧
      ListAt W 2 lockE Al nl ∧ ListAt W 8 rowE Ar nr ∧ ListAt W 2 deedE Ae ne := by
  obtain ⟨⟨cs⟩, rfl, hsz⟩ := okWide_struct Tryz.underlying30 hv
  have hl : cs.length = 16 := hsz.trans sixteen_rec
  obtain ⟨fuel, hf⟩ := h
  have hf : DataW.trod enc Tryz.prog W base sp held fuel 30 cs = some (d, p) := hf
  obtain ⟨⟨z0, m0, g0⟩, ⟨z1, m1, g1⟩, ⟨z2, m2, g2⟩, ⟨z3, m3, g3⟩, ⟨z4, m4, g4⟩, ⟨z5, m5, g5⟩, ⟨z6, m6, g6⟩, ⟨z7, m7, g7⟩, ⟨z8, m8, g8⟩, ⟨z9, m9, g9⟩, ⟨z10, m10, g10⟩, ⟨z11, m11, g11⟩, ⟨z12, m12, g12⟩, ⟨z13, m13, g13⟩⟩ := trod_fields14 Tryz.underlying30 hf
  match cs, hl with
  | [c0, c1, c2, c3, c4, c5, c6, c7, c8, c9, c10, c11, c12, c13, c14, c15], _ =>
    simp only [one_int, one_str, two_val, one_ints, one_locks, one_rows, one_dirty, one_deeds, List.drop_succ_cons, List.drop_zero, List.take_succ_cons, List.take_zero] at g0 g1 g2 g3 g4 g5 g6 g7 g8 g9 g10 g11 g12 g13
    obtain ⟨k0, e0, _, _⟩ := DataW.trod_int Tryz.underlying3 g0
    obtain ⟨k1, e1, _, _⟩ := DataW.trod_int Tryz.underlying3 g1
    obtain ⟨k2, e2, _, _⟩ := DataW.trod_int Tryz.underlying3 g2
    obtain ⟨k3, e3, _, _⟩ := DataW.trod_int Tryz.underlying3 g3
    obtain ⟨key, e4, _, _⟩ := DataW.trod_string Tryz.underlying9 g4
    obtain ⟨⟨za, ma, ga⟩, ⟨zb, mb, gb⟩⟩ := trod_fields2 Tryz.underlying23 g5
    obtain ⟨⟨zc, mc, gc⟩, ⟨zd, md, gd⟩⟩ := trod_fields2 Tryz.underlying23 g6
    simp only [one_bool, one_str, List.drop_succ_cons, List.drop_zero, List.take_succ_cons, List.take_zero] at ga gb gc gd
    obtain ⟨oh, ea, _⟩ := DataW.trod_bool Tryz.underlying4 ga
    obtain ⟨od, eb, _, _⟩ := DataW.trod_string Tryz.underlying9 gb
    obtain ⟨nh, ec, _⟩ := DataW.trod_bool Tryz.underlying4 gc
    obtain ⟨nd, ed, _, _⟩ := DataW.trod_string Tryz.underlying9 gd
    obtain ⟨co, e7, _, _⟩ := DataW.trod_int Tryz.underlying3 g7
    obtain ⟨Am, nm, cm, e8⟩ := trod_slice Tryz.underlying24 g8
    obtain ⟨Al, nl, cl, e9⟩ := trod_slice Tryz.underlying25 g9
    obtain ⟨Ar, nr, cr, e10⟩ := trod_slice Tryz.underlying26 g10
    obtain ⟨Ad, nd', cd, e11⟩ := trod_slice Tryz.underlying27 g11
    obtain ⟨Ae, ne, ce, e12⟩ := trod_slice Tryz.underlying28 g12
    obtain ⟨Ap, np, cp, e13⟩ := trod_slice Tryz.underlying24 g13
    simp only [List.cons.injEq, and_true] at e0 e1 e2 e3 e4 ea eb ec ed e7
    subst e0 e1 e2 e3 e4 ea eb ec ed e7 e8 e9 e10 e11 e12 e13
    exact ⟨k0, k1, k2, k3, co, key, od, nd, oh, nh, Am, nm, cm, Al, nl, cl, Ar, nr, cr, Ad, nd', cd, Ae, ne, ce, Ap, np, cp, rfl,
      trod_list 2 (by omega) Tryz.underlying25 two_lock (fun _ _ _ hl hy => lock_cells hl hy) g9,
      trod_list 8 (by omega) Tryz.underlying26 eight_row (fun _ _ _ hl hy => row_cells hl hy) g10,
      trod_list 2 (by omega) Tryz.underlying28 two_deed (fun _ _ _ hl hy => deed_cells hl hy) g12⟩
end
end Go.Proofs.YtbmedcghekgjnaaGreatDoor
