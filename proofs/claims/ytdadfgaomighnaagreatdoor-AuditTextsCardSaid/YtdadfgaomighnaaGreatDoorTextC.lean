/-
  The reference's Text.
-/
import Derived.Test.YtdadfgaomighnaaGreatDoorTextB
namespace Go.Proofs.YtdadfgaomighnaaGreatDoor
open Go Go.RowKit

def StT (w0 : World) (bb : Nat) (cs : Array Value) (W : World) (v : Value) (l : List ByteArray) : Prop :=
  Blk W bb 24 cs ∧ W.ownsRow (w0.heap.size + 1) 9 1 v l.length (strV l) ∧ Below w0.heap.size w0 W ∧ w0.heap.size + 1 ≤ W.heap.size
theorem StT.more {w0 : World} {bb : Nat} {cs : Array Value} {W : World} {v : Value} {l : List ByteArray} (h : StT w0 bb cs W v l) (hb : bb < w0.heap.size + 1) (hn : l.length ≤ 1000) (s : ByteArray) :
    ∃ A c w', (Builtin.append_ #[27, 27] 27 #[v, .slice (some ⟨W.heap.size, 0, none⟩) 1 1]).run Tryz.prog (W.alloc (.cells #[.string s] 9)) = .ok (.slice A (l.length + 1) c) w' ∧ StT w0 bb cs w' (.slice A (l.length + 1) c) (l ++ [s]) := by
  obtain ⟨h1, h2, h3, h4⟩ := h
  obtain ⟨A, c, w', hrun, ho, hB, _⟩ := run_append_str W (w0.heap.size + 1) v l.length l s h2 hn h4
  refine ⟨A, c, w', hrun, ⟨h1.below hB hb, by simpa using ho, h3.trans (hB.mono (by omega)), Nat.le_trans h4 hB.size⟩⟩
theorem wp_linesOf (a : AuD) (ns : List Int) : linesOf a ns = (heads a ++ ns.map wrongB) ++ (if ns.length = 0 then [none0] else []) := rfl

set_option maxRecDepth 100000
set_option maxHeartbeats 8000000 in
theorem refText_ok (a : AuD) (ha : a.ok) (A : Option Addr) (n c : Nat) (ns : List Int) (w : World) (hns : IntsE w (.slice A n c) ns) (hn : ns.length ≤ 60) :
    Calls Tryz.prog 7 #[.agg (a.cells A n c)] w fun e w' => ∃ v, e = .returned v ∧ w'.ownsRow (w.heap.size + 1) 9 1 v (linesOf a ns).length (strV (linesOf a ns)) ∧ Below w.heap.size w w' := by
  have hnn : n = ns.length := by
    obtain ⟨A', c', h, _⟩ := hns.val
    injection h with _ h _
  subst hnn
  obtain ⟨⟨ha0, ha1, ha2⟩, ha3, ha4, ha5⟩ := ha
  have HA := Lib.hid (And.intro (And.intro ha0 (And.intro ha1 ha2)) (And.intro ha3 (And.intro ha4 ha5)))
  clear ha0 ha1 ha2 ha3 ha4 ha5
  have hS0 : StT w w.heap.size (a.cells A ns.length c) (w.alloc (.cells (a.cells A ns.length c) 24)) (.slice none 0 0) [] := ⟨Blk.new w _ _, World.ownsRow_nil _ _ _ _, (Below.refl _ _).alloc (Nat.le_refl _) _, by simp⟩
  have HNS := Lib.hid hns
  have HN := Lib.hid hn
  clear hns hn
  unfold AuD.cells at hS0 ⊢

  have hc0 : ∀ W, (Op.stringOp .add ⟨#[111, 112, 101, 110, 101, 100, 32]⟩ (itoaB a.inc)).run Tryz.prog W = .ok (.string (nm0 ++ itoaB a.inc)) W := fun W => run_string_add_sum W nm0 (itoaB a.inc) (by have := itoaB_size a.inc HA.out.1.1.1 HA.out.1.1.2; have h : nm0.size = 7 := rfl; omega)
  have i0 := fun W => signed_ok a.inc HA.out.1.1.1 HA.out.1.1.2 W
  have hc1 : ∀ W, (Op.stringOp .add ⟨#[102, 105, 114, 115, 116, 32]⟩ (itoaB a.first)).run Tryz.prog W = .ok (.string (nm1 ++ itoaB a.first)) W := fun W => run_string_add_sum W nm1 (itoaB a.first) (by have := itoaB_size a.first HA.out.1.2.1.1 HA.out.1.2.1.2; have h : nm1.size = 6 := rfl; omega)
  have i1 := fun W => signed_ok a.first HA.out.1.2.1.1 HA.out.1.2.1.2 W
  have hc2 : ∀ W, (Op.stringOp .add ⟨#[108, 97, 115, 116, 32]⟩ (itoaB a.last)).run Tryz.prog W = .ok (.string (nm2 ++ itoaB a.last)) W := fun W => run_string_add_sum W nm2 (itoaB a.last) (by have := itoaB_size a.last HA.out.1.2.2.1 HA.out.1.2.2.2; have h : nm2.size = 5 := rfl; omega)
  have i2 := fun W => signed_ok a.last HA.out.1.2.2.1 HA.out.1.2.2.2 W
  have hc3 : ∀ W, (Op.stringOp .add ⟨#[99, 104, 101, 99, 107, 112, 111, 105, 110, 116, 32]⟩ (itoaB a.check)).run Tryz.prog W = .ok (.string (nm3 ++ itoaB a.check)) W := fun W => run_string_add_sum W nm3 (itoaB a.check) (by have := itoaB_size a.check HA.out.2.1.1 HA.out.2.1.2; have h : nm3.size = 11 := rfl; omega)
  have i3 := fun W => signed_ok a.check HA.out.2.1.1 HA.out.2.1.2 W
  have hc4 : ∀ W, (Op.stringOp .add ⟨#[112, 97, 103, 101, 115, 32]⟩ (itoaB a.pages)).run Tryz.prog W = .ok (.string (nm4 ++ itoaB a.pages)) W := fun W => run_string_add_sum W nm4 (itoaB a.pages) (by have := itoaB_size a.pages HA.out.2.2.1.1 HA.out.2.2.1.2; have h : nm4.size = 6 := rfl; omega)
  have i4 := fun W => signed_ok a.pages HA.out.2.2.1.1 HA.out.2.2.1.2 W
  have hc5 : ∀ W, (Op.stringOp .add ⟨#[116, 111, 114, 110, 32]⟩ (itoaB a.torn)).run Tryz.prog W = .ok (.string (nm5 ++ itoaB a.torn)) W := fun W => run_string_add_sum W nm5 (itoaB a.torn) (by have := itoaB_size a.torn HA.out.2.2.2.1 HA.out.2.2.2.2; have h : nm5.size = 5 := rfl; omega)
  have i5 := fun W => signed_ok a.torn HA.out.2.2.2.1 HA.out.2.2.2.2 W
  obtain ⟨A1, c1, w1, hr1, hS1⟩ := hS0.more (by omega) (by simp) (nm0 ++ itoaB a.inc)
  simp only [World.size_alloc, List.length_nil, List.nil_append, Nat.zero_add] at hr1 hS1
  obtain ⟨A2, c2, w2, hr2, hS2⟩ := hS1.more (by omega) (by simp) (nm1 ++ itoaB a.first)
  simp only [List.length_cons, List.length_nil, List.cons_append, List.nil_append, Nat.zero_add, Nat.reduceAdd] at hr2 hS2
  obtain ⟨A3, c3, w3, hr3, hS3⟩ := hS2.more (by omega) (by simp) (nm2 ++ itoaB a.last)
  simp only [List.length_cons, List.length_nil, List.cons_append, List.nil_append, Nat.zero_add, Nat.reduceAdd] at hr3 hS3
  obtain ⟨A4, c4, w4, hr4, hS4⟩ := hS3.more (by omega) (by simp) (nm3 ++ itoaB a.check)
  simp only [List.length_cons, List.length_nil, List.cons_append, List.nil_append, Nat.zero_add, Nat.reduceAdd] at hr4 hS4
  obtain ⟨A5, c5, w5, hr5, hS5⟩ := hS4.more (by omega) (by simp) (nm4 ++ itoaB a.pages)
  simp only [List.length_cons, List.length_nil, List.cons_append, List.nil_append, Nat.zero_add, Nat.reduceAdd] at hr5 hS5
  obtain ⟨A6, c6, w6, hr6, hS6⟩ := hS5.more (by omega) (by simp) (nm5 ++ itoaB a.torn)
  simp only [List.length_cons, List.length_nil, List.cons_append, List.nil_append, Nat.zero_add, Nat.reduceAdd] at hr6 hS6
  have hb0 := hS0.1.cell
  have hb1 := hS1.1.cell
  have hb2 := hS2.1.cell
  have hb3 := hS3.1.cell
  have hb4 := hS4.1.cell
  have hb5 := hS5.1.cell
  have hb6 := hS6.1.cell
  have HS0 := Lib.hid hS0
  clear hS0
  have HS1 := Lib.hid hS1
  clear hS1
  have HS2 := Lib.hid hS2
  clear hS2
  have HS3 := Lib.hid hS3
  clear hS3
  have HS4 := Lib.hid hS4
  clear hS4
  have HS5 := Lib.hid hS5
  clear hS5
  have HS6 := Lib.hid hS6
  clear hS6
  have HR1 := Lib.hid hr1
  clear hr1
  have HR2 := Lib.hid hr2
  clear hr2
  have HR3 := Lib.hid hr3
  clear hr3
  have HR4 := Lib.hid hr4
  clear hr4
  have HR5 := Lib.hid hr5
  clear hr5
  have HR6 := Lib.hid hr6
  clear hr6
  have I0 := Lib.hid i0
  have I1 := Lib.hid i1
  have I2 := Lib.hid i2
  have I3 := Lib.hid i3
  have I4 := Lib.hid i4
  have I5 := Lib.hid i5
  clear i0 i1 i2 i3 i4 i5
  go_enter Tryz.func7, Tryz.ntmps7
  go_wp2_with fail
  refine (I0.out _).mono ?_
  rintro e wq ⟨rfl, rfl⟩
  go_wp2_with (at_builtin; refine wpList_append_run rfl _ _ _ rfl rfl rfl HR1.out ?_; refine Hid.out ?_)
  refine Lib.hid ?_
  go_wp2_with fail
  refine (I1.out _).mono ?_
  rintro e wq ⟨rfl, rfl⟩
  go_wp2_with (at_builtin; refine wpList_append_run rfl _ _ _ rfl rfl rfl HR2.out ?_; refine Hid.out ?_)
  refine Lib.hid ?_
  go_wp2_with fail
  refine (I2.out _).mono ?_
  rintro e wq ⟨rfl, rfl⟩
  go_wp2_with (at_builtin; refine wpList_append_run rfl _ _ _ rfl rfl rfl HR3.out ?_; refine Hid.out ?_)
  refine Lib.hid ?_
  go_wp2_with fail
  refine (I3.out _).mono ?_
  rintro e wq ⟨rfl, rfl⟩
  go_wp2_with (at_builtin; refine wpList_append_run rfl _ _ _ rfl rfl rfl HR4.out ?_; refine Hid.out ?_)
  refine Lib.hid ?_
  go_wp2_with fail
  refine (I4.out _).mono ?_
  rintro e wq ⟨rfl, rfl⟩
  go_wp2_with (at_builtin; refine wpList_append_run rfl _ _ _ rfl rfl rfl HR5.out ?_; refine Hid.out ?_)
  refine Lib.hid ?_
  go_wp2_with fail
  refine (I5.out _).mono ?_
  rintro e wq ⟨rfl, rfl⟩
  go_wp2_with (at_builtin; refine wpList_append_run rfl _ _ _ rfl rfl rfl HR6.out ?_; refine Hid.out ?_)
  refine Lib.hid ?_
  go_wp2_with fail
  go_loopw [3, 4] (fun t i wr => ∃ (k : Nat) (A' : Option Addr) (c' : Nat), k ≤ ns.length ∧ i = .int .i64 k ∧ t = .slice A' (6 + k) c' ∧ StT w w.heap.size (a.cells A ns.length c) wr (.slice A' (6 + k) c') (heads a ++ (ns.take k).map wrongB)) (fun _ i _ => ns.length - (intOf i).toNat)
  case atStart => exact ⟨0, _, _, Nat.zero_le _, rfl, rfl, by show StT _ _ _ _ _ (heads a ++ []); rw [List.append_nil]; exact HS6.out⟩
  case round =>
    obtain ⟨k, A', c', hk, rfl, rfl, hS⟩ := hrel
    have hb := hS.1.cell
    unfold AuD.cells at hb
    have hn60 := HN.out
    by_cases hlt : k < ns.length
    · obtain ⟨z, hz⟩ : ∃ z, ns[k]? = some z := ⟨_, List.getElem?_eq_getElem hlt⟩
      have hc := HNS.out.below hS.2.2.1
      obtain ⟨b, off, c2, he, hbl, hcell⟩ := hc.get (fun _ => rfl) hz
      have hcz : wr.cell? ⟨b, off + k, none⟩ = some (.int .i64 z) := by simpa using hcell 0 (by omega)
      injection he with he1 he2 he3
      subst he1 he3
      obtain ⟨A2, c3, w2, hr, hS2⟩ := hS.more (by omega) (by have := HN.out; simp [heads]; omega) (wrongB z)
      have hl : (heads a ++ (ns.take k).map wrongB).length = 6 + k := by simp [heads]; omega
      rw [hl] at hr hS2
      have hS3 : StT w w.heap.size (a.cells (some ⟨b, off, none⟩) ns.length c) w2 (.slice A2 (6 + (k + 1)) c3) (heads a ++ (ns.take (k + 1)).map wrongB) := by
        rw [show (ns.take (k + 1)).map wrongB = (ns.take k).map wrongB ++ [wrongB z] by rw [List.take_add_one, hz]; simp, ← List.append_assoc]
        exact hS2
      have H3 := Lib.hid hS3
      have HR := Lib.hid hr
      clear hS hS2 hS3 hr hl hc hcell hz
      go_wp2_with fail
      refine (refWrong_ok z wr).mono ?_
      rintro e wq ⟨rfl, rfl⟩
      go_wp2_with (at_builtin; refine wpList_append_run rfl _ _ _ rfl rfl rfl HR.out ?_; refine Hid.out ?_)
      refine Lib.hid ?_
      go_wp2
      go_roundw
      case rel => exact ⟨k + 1, _, _, by omega, by go_num, rfl, H3.out⟩
      case measure => simp [intOf]; omega
    · obtain rfl : k = ns.length := by omega
      rw [List.take_length] at hS
      have hl : (heads a ++ ns.map wrongB).length = 6 + ns.length := by simp [heads]; omega
      by_cases h0 : ns.length = 0
      · obtain rfl : ns = [] := List.eq_nil_of_length_eq_zero h0
        obtain ⟨A2, c3, w2, hr, hS2⟩ := hS.more (by omega) (by simp [heads]) none0
        simp only [List.map_nil, List.append_nil, List.length_nil] at hr hS2 hS hb hl
        have hl2 : (heads a).length = 6 := rfl
        rw [hl2] at hr hS2
        have H3 := Lib.hid hS2
        have HR := Lib.hid hr
        clear hS hS2 hr hl hl2 h0 hlt hk
        go_wp2_with (at_builtin; refine wpList_append_run rfl _ _ _ rfl rfl rfl HR.out ?_; refine Hid.out ?_)
        refine Lib.hid ?_
        go_wp2
        go_ret
        refine ⟨_, rfl, ?_, H3.out.2.2.1⟩
        have := H3.out.2.1
        rw [wp_linesOf]
        simpa [heads] using this
      · have H3 := Lib.hid hS
        have H0 := Lib.hid h0
        have h00 : (0 : Int) < ns.length := by omega
        have e0 : ((ns.length : Int) == 0) = false := by rw [beq_eq_false_iff_ne]; omega
        clear hS hl hlt hk h0
        go_wp2
        go_ret
        refine ⟨_, rfl, ?_, H3.out.2.2.1⟩
        rw [wp_linesOf, if_neg H0.out, List.append_nil]
        exact H3.out.2.1
end Go.Proofs.YtdadfgaomighnaaGreatDoor

