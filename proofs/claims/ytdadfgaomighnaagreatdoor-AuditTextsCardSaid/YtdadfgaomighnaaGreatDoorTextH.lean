/-
  AuditTexts returns true for all looks.
-/
import Derived.Test.YtdadfgaomighnaaGreatDoorTextE
import Derived.Test.YtdadfgaomighnaaGreatDoorTextF
import Derived.Test.YtdadfgaomighnaaGreatDoorTextG
import Derived.Test.YtdadfgaomighnaaGreatDoorAppNew
import Derived.Test.YtdadfgaomighnaaGreatDoorAwake28
namespace Go.Proofs.YtdadfgaomighnaaGreatDoor
open Go Ev Go.RowKit

theorem info_int : (Tryz.prog.info? 3).map (fun i => (i.zero, i.size, i.bytes)) = some (some (.int .i64 0), 1, 8) := by kernel_rfl
theorem ints_one (l : List Int) : ∀ u ∈ l.flatMap (fun n : Int => [Value.int .i64 n]), u.oneCell' = true := by
  intro u hu
  obtain ⟨r, _, hu⟩ := List.mem_flatMap.1 hu
  simp only [List.mem_cons, List.not_mem_nil, or_false] at hu
  subst hu; rfl
theorem awake28_ok {w : World} (hw : HalfAt w) : Calls Tryz.prog 4 #[] w fun e w' => e = .returned (.bool true) ∧ Below w.heap.size w w' :=
  calls_true (fun h => sn28_X_ok h) (fn := Tryz.f4) (by kernel_rfl) rfl awake28_run hw

theorem below_drewN {B : Nat} {w w' : World} (h : Below B w w') (n : Nat) : Below B w (w'.drewN n) := ⟨h.os, h.tape, h.output, h.size, h.block⟩
/-- The three looks lie in a world. -/
def Looks3 (w : World) (a b : AuD) (A : Option Addr) (n c : Nat) (B : Option Addr) (m d : Nat) (A1 : Option Addr) (c1 : Nat) (W : World) : Prop :=
  Blk W w.heap.size 24 (a.cells A n c) ∧ Blk W (w.heap.size + 1) 24 (b.cells B m d) ∧ Blk W (w.heap.size + 1 + 1) 24 (a.cells A1 n c1)
theorem Looks3.below {w : World} {a b : AuD} {A : Option Addr} {n c : Nat} {B : Option Addr} {m d : Nat} {A1 : Option Addr} {c1 : Nat} {W W' : World} (h : Looks3 w a b A n c B m d A1 c1 W) (hb : Below W.heap.size W W') : Looks3 w a b A n c B m d A1 c1 W' :=
  ⟨h.1.below hb h.1.lt, h.2.1.below hb h.2.1.lt, h.2.2.below hb h.2.2.lt⟩
theorem Looks3.cells {w : World} {a b : AuD} {A : Option Addr} {ns : List Int} {c : Nat} {B : Option Addr} {m d : Nat} {A1 : Option Addr} {c1 : Nat} {W : World} (h : Looks3 w a b A ns.length c B m d A1 c1 W) :
    W.cell? ⟨w.heap.size, 0, none⟩ = some (.int .i64 a.inc) ∧ W.cell? ⟨w.heap.size, 1, none⟩ = some (.int .i64 a.first) ∧ W.cell? ⟨w.heap.size, 2, none⟩ = some (.int .i64 a.last) ∧ W.cell? ⟨w.heap.size, 3, none⟩ = some (.int .i64 a.check) ∧ W.cell? ⟨w.heap.size, 4, none⟩ = some (.int .i64 a.pages) ∧ W.cell? ⟨w.heap.size, 5, none⟩ = some (.int .i64 a.torn) ∧ W.cell? ⟨w.heap.size, 6, none⟩ = some (.slice A ns.length c) ∧ W.cell? ⟨w.heap.size + 1, 0, none⟩ = some (.int .i64 b.inc) ∧ W.cell? ⟨w.heap.size + 1, 1, none⟩ = some (.int .i64 b.first) ∧ W.cell? ⟨w.heap.size + 1, 2, none⟩ = some (.int .i64 b.last) ∧ W.cell? ⟨w.heap.size + 1, 3, none⟩ = some (.int .i64 b.check) ∧ W.cell? ⟨w.heap.size + 1, 4, none⟩ = some (.int .i64 b.pages) ∧ W.cell? ⟨w.heap.size + 1, 5, none⟩ = some (.int .i64 b.torn) ∧ W.cell? ⟨w.heap.size + 1, 6, none⟩ = some (.slice B m d) ∧ W.cell? ⟨w.heap.size + 1 + 1, 0, none⟩ = some (.int .i64 a.inc) ∧ W.cell? ⟨w.heap.size + 1 + 1, 1, none⟩ = some (.int .i64 a.first) ∧ W.cell? ⟨w.heap.size + 1 + 1, 2, none⟩ = some (.int .i64 a.last) ∧ W.cell? ⟨w.heap.size + 1 + 1, 3, none⟩ = some (.int .i64 a.check) ∧ W.cell? ⟨w.heap.size + 1 + 1, 4, none⟩ = some (.int .i64 a.pages) ∧ W.cell? ⟨w.heap.size + 1 + 1, 5, none⟩ = some (.int .i64 a.torn) ∧ W.cell? ⟨w.heap.size + 1 + 1, 6, none⟩ = some (.slice A1 ns.length c1) := by
  obtain ⟨h1, h2, h3⟩ := h
  exact ⟨h1.cell 0, h1.cell 1, h1.cell 2, h1.cell 3, h1.cell 4, h1.cell 5, h1.cell 6, h2.cell 0, h2.cell 1, h2.cell 2, h2.cell 3, h2.cell 4, h2.cell 5, h2.cell 6, h3.cell 0, h3.cell 1, h3.cell 2, h3.cell 3, h3.cell 4, h3.cell 5, h3.cell 6⟩

set_option maxRecDepth 100000
set_option maxHeartbeats 8000000 in
theorem auditTexts_walk (a b : AuD) (ha : a.ok) (A : Option Addr) (n c : Nat) (B : Option Addr) (m d : Nat) (ns : List Int) (w : World) (hA : IntsE w (.slice A n c) ns)
    (hH : HalfAt w) (hP : PowAt w) (hg : 1 < w.heap.size) (hW : WrongsAt w) :
    Calls Tryz.prog 3 #[.agg (a.cells A n c), .agg (b.cells B m d)] w fun e w' => e = .returned (.bool true) ∧ Below w.heap.size w w' := by
  have hnn : n = ns.length := by
    obtain ⟨A', c', h, _⟩ := hA.val
    injection h with _ h _
  subst hnn
  have HA := Lib.hid hA
  have HH := Lib.hid hH
  have HP := Lib.hid hP
  have HW := Lib.hid hW
  have HG := Lib.hid hg
  have HO := Lib.hid ha
  clear hA hH hP hW hg ha
  have hB0 : Below w.heap.size w ((w.alloc (.cells (a.cells A ns.length c) 24)).alloc (.cells (b.cells B m d) 24)) := ((Below.refl _ _).alloc (Nat.le_refl _) _).alloc (by simp) _
  have HB0 := Lib.hid hB0
  clear hB0
  by_cases h1 : 60 < ns.length
  · unfold AuD.cells at HB0 ⊢
    go_enter Tryz.func3, Tryz.ntmps3
    go_wp2_with fail
    refine (awake28_ok (HH.out.below HB0.out)).mono ?_
    rintro e w' ⟨rfl, hb⟩
    have HB := Lib.hid (HB0.out.trans (hb.mono HB0.out.size))
    clear hb
    go_wp2
    go_ret
    exact ⟨rfl, HB.out⟩
  by_cases h2 : 60 < m
  · unfold AuD.cells at HB0 ⊢
    go_enter Tryz.func3, Tryz.ntmps3
    go_wp2_with fail
    refine (awake28_ok (HH.out.below HB0.out)).mono ?_
    rintro e w' ⟨rfl, hb⟩
    have HB := Lib.hid (HB0.out.trans (hb.mono HB0.out.size))
    clear hb
    go_wp2
    go_ret
    exact ⟨rfl, HB.out⟩
  have hn60 : ns.length ≤ 60 := by omega
  have hm60 : m ≤ 60 := by omega
  clear h1 h2
  obtain ⟨i1, hi1, hz1, hs1, hb1⟩ := info_parts info_int
  have h3 : Below w.heap.size w (((w.alloc (.cells (a.cells A ns.length c) 24)).alloc (.cells (b.cells B m d) 24)).alloc (.cells (a.cells A ns.length c) 24)) := HB0.out.alloc (by simp; omega) _
  obtain ⟨u1, w1, hrun1, ho1, hu1⟩ := run_append_new 22 3 i1 _ 1 8 Tryz.underlying22 hi1 hz1 hs1 hb1 rfl (by omega) _ _ ns.length _ (HA.out.below h3) (ints_one ns) (by omega) (by unfold maxLen; omega)
  obtain ⟨A1, c1, rfl⟩ := own_form ho1
  have k2 : Blk w1 w.heap.size 24 (a.cells A ns.length c) := (((Blk.new w _ _).alloc _).alloc _).upd hu1 id
  have k3 : Blk w1 (w.heap.size + 1) 24 (b.cells B m d) := ((Blk.new' (w.alloc (.cells (a.cells A ns.length c) 24)) _ _ (by simp)).alloc _).upd hu1 id
  have k5 : Blk w1 (w.heap.size + 1 + 1) 24 (a.cells A ns.length c) := (Blk.new' ((w.alloc (.cells (a.cells A ns.length c) 24)).alloc (.cells (b.cells B m d) 24)) _ _ (by simp)).upd hu1 id
  have hB1 : Below w.heap.size w w1 := h3.trans ((hu1.toBelow fun _ _ => id).mono h3.size)
  have c5 := k5.cell
  have f5 := k5.frozen
  have c2 := k2.cell
  simp only [World.size_alloc] at hrun1
  have HRUN := Lib.hid hrun1
  have K2 := Lib.hid k2
  have K3 := Lib.hid k3
  have K5 := Lib.hid k5
  have HO1 := Lib.hid ho1
  have HB1 := Lib.hid hB1
  clear hrun1 k2 k3 k5 ho1 hB1 h3 hu1 hi1 hz1 hs1 hb1
  unfold AuD.cells at HB0 HRUN c5 c2 ⊢
  go_enter Tryz.func3, Tryz.ntmps3
  go_wp2_with (at_builtin; refine wpList_append_run rfl _ _ _ rfl rfl rfl HRUN.out ?_)
  have e5 : (a.cells A ns.length c).setIfInBounds 6 (.slice A1 ns.length c1) = a.cells A1 ns.length c1 := rfl
  have hL5 : Looks3 w a b A ns.length c B m d A1 c1 (w1.setCell ⟨w.heap.size + 1 + 1, 6, none⟩ (.slice A1 ns.length c1)) :=
    ⟨K2.out.far (by show w.heap.size ≠ w.heap.size + 1 + 1; omega) _, K3.out.far (by show w.heap.size + 1 ≠ w.heap.size + 1 + 1; omega) _, by have := K5.out.set_ 6 (.slice A1 ns.length c1); rw [e5] at this; exact this⟩
  have hB5 : Below w.heap.size w (w1.setCell ⟨w.heap.size + 1 + 1, 6, none⟩ (.slice A1 ns.length c1)) := HB1.out.setCell (by show w.heap.size ≤ w.heap.size + 1 + 1; omega) _
  have hI5 : IntsE (w1.setCell ⟨w.heap.size + 1 + 1, 6, none⟩ (.slice A1 ns.length c1)) (.slice A1 ns.length c1) ns :=
    Reads.of_own (own_upd HO1.out ((Upd.refl (· = w.heap.size + 1 + 1) w1).setCell (fun _ => rfl) _) fun k hk he => by subst he; exact own_blk_ne HO1.out K5.out (by decide) hk)
  clear c5 f5 c2 e5
  revert hL5 hB5 hI5
  generalize w1.setCell ⟨w.heap.size + 1 + 1, 6, none⟩ (.slice A1 ns.length c1) = W5
  intro hL5 hB5 hI5
  have HL5 := Lib.hid hL5
  have HB5 := Lib.hid hB5
  have HI5 := Lib.hid hI5
  clear hL5 hB5 hI5
  have HT : Hid (∀ W, Below W5.heap.size W5 W → Calls Tryz.prog 6 #[.agg (a.cells A1 ns.length c1)] W fun e w' => ∃ v, e = .returned v ∧ w'.ownsRow (W.heap.size + 1) 9 1 v (linesOf a ns).length (strV (linesOf a ns)) ∧ Below W.heap.size W w') := fun W hb =>
    text_ok a HO.out _ _ _ ns W (HI5.out.below hb) hn60 (HP.out.below (HB5.out.trans (hb.mono HB5.out.size)) HG.out) (Nat.lt_of_lt_of_le HG.out (Nat.le_trans HB5.out.size hb.size)) (HW.out.below (HB5.out.trans (hb.mono HB5.out.size)))
  have HR : Hid (∀ W, Below W5.heap.size W5 W → Calls Tryz.prog 7 #[.agg (a.cells A ns.length c)] W fun e w' => ∃ v, e = .returned v ∧ w'.ownsRow (W.heap.size + 1) 9 1 v (linesOf a ns).length (strV (linesOf a ns)) ∧ Below W.heap.size W w') := fun W hb =>
    refText_ok a HO.out _ _ _ ns W (HA.out.below (HB5.out.trans (hb.mono HB5.out.size))) hn60
  have hll : (linesOf a ns).length ≤ 1000 := by
    rw [wp_linesOf, List.length_append, List.length_append, List.length_map]
    have : (heads a).length = 6 := rfl
    split <;> simp <;> omega
  have HLL := Lib.hid hll
  have hk5 := HL5.out.cells
  have HK5 := Lib.hid hk5
  clear hll hk5 HRUN HB0 K2 K3 K5
  go_region_held3 (fun w' => w'.cell? ⟨w.heap.size, 0, none⟩ = some (.int .i64 a.inc) ∧ w'.cell? ⟨w.heap.size, 1, none⟩ = some (.int .i64 a.first) ∧ w'.cell? ⟨w.heap.size, 2, none⟩ = some (.int .i64 a.last) ∧ w'.cell? ⟨w.heap.size, 3, none⟩ = some (.int .i64 a.check) ∧ w'.cell? ⟨w.heap.size, 4, none⟩ = some (.int .i64 a.pages) ∧ w'.cell? ⟨w.heap.size, 5, none⟩ = some (.int .i64 a.torn) ∧ w'.cell? ⟨w.heap.size, 6, none⟩ = some (.slice A ns.length c) ∧ w'.cell? ⟨w.heap.size + 1, 0, none⟩ = some (.int .i64 b.inc) ∧ w'.cell? ⟨w.heap.size + 1, 1, none⟩ = some (.int .i64 b.first) ∧ w'.cell? ⟨w.heap.size + 1, 2, none⟩ = some (.int .i64 b.last) ∧ w'.cell? ⟨w.heap.size + 1, 3, none⟩ = some (.int .i64 b.check) ∧ w'.cell? ⟨w.heap.size + 1, 4, none⟩ = some (.int .i64 b.pages) ∧ w'.cell? ⟨w.heap.size + 1, 5, none⟩ = some (.int .i64 b.torn) ∧ w'.cell? ⟨w.heap.size + 1, 6, none⟩ = some (.slice B m d) ∧ w'.cell? ⟨w.heap.size + 1 + 1, 0, none⟩ = some (.int .i64 a.inc) ∧ w'.cell? ⟨w.heap.size + 1 + 1, 1, none⟩ = some (.int .i64 a.first) ∧ w'.cell? ⟨w.heap.size + 1 + 1, 2, none⟩ = some (.int .i64 a.last) ∧ w'.cell? ⟨w.heap.size + 1 + 1, 3, none⟩ = some (.int .i64 a.check) ∧ w'.cell? ⟨w.heap.size + 1 + 1, 4, none⟩ = some (.int .i64 a.pages) ∧ w'.cell? ⟨w.heap.size + 1 + 1, 5, none⟩ = some (.int .i64 a.torn) ∧ w'.cell? ⟨w.heap.size + 1 + 1, 6, none⟩ = some (.slice A1 ns.length c1)) (first | exact HK5.out | exact HK6.out | exact HK7.out | exact HK9.out | exact HK10.out | exact HK11.out)
    (first
      | (go_at_call 6
         refine (HT.out _ (Below.refl _ _).drew).mono ?_
         rintro e W6 ⟨v1, rfl, ho6, hb6⟩
         have hb66 : Below W5.heap.size W5 W6 := (Below.refl _ _).drew.trans hb6
         have HB6 := Lib.hid hb66
         have HK6 := Lib.hid (HL5.out.below hb66).cells
         have HO6 := Lib.hid ho6
         clear ho6 hb6 hb66)
      | (go_at_call 7
         refine (HR.out _ HB6.out).mono ?_
         rintro e W7 ⟨v2, rfl, ho7, hb7⟩
         have hb77 : Below W5.heap.size W5 W7 := HB6.out.trans (hb7.mono HB6.out.size)
         have HB7 := Lib.hid hb77
         have HK7 := Lib.hid (HL5.out.below hb77).cells
         have HS := Lib.hid (sameLines_ok v1 v2 (linesOf a ns) W7 (Reads.of_own (own_upd HO6.out (Upd.ofBelow hb7 Nowhere) fun _ _ => id)) (Reads.of_own ho7) HLL.out)
         clear ho7 hb7 hb77)
      | (go_at_call 5
         refine HS.out.mono ?_
         rintro e W8 ⟨rfl, n8, rfl⟩)
      | (go_at_call 8
         refine (less_ok a b A1 ns.length c1 B m d _ ((HH.out.below HB5.out).below (below_drewN HB7.out n8))).mono ?_
         rintro e W9 ⟨rfl, hb9⟩
         have hb99 : Below W5.heap.size W5 W9 := (below_drewN HB7.out n8).trans (hb9.mono (below_drewN HB7.out n8).size)
         have HB9 := Lib.hid hb99
         have HK9 := Lib.hid (HL5.out.below hb99).cells
         clear hb9 hb99)
      | (go_at_call 9
         refine (refLess_ok a b A ns.length c B m d _ ((HH.out.below HB5.out).below HB9.out)).mono ?_
         rintro e W10 ⟨rfl, hb10⟩
         have hb100 : Below W5.heap.size W5 W10 := HB9.out.trans (hb10.mono HB9.out.size)
         have HB10 := Lib.hid hb100
         have HK10 := Lib.hid (HL5.out.below hb100).cells
         clear hb10 hb100)
      | (go_at_call 4
         refine (awake28_ok ((HH.out.below HB5.out).below HB10.out)).mono ?_
         rintro e W11 ⟨rfl, hb11⟩
         have hb111 : Below W5.heap.size W5 W11 := HB10.out.trans (hb11.mono HB10.out.size)
         have HB11 := Lib.hid hb111
         have HK11 := Lib.hid (HL5.out.below hb111).cells
         clear hb11 hb111))
  all_goals
    go_wp2
    go_ret
    exact ⟨rfl, HB5.out.trans (HB11.out.mono HB5.out.size)⟩
end Go.Proofs.YtdadfgaomighnaaGreatDoor
