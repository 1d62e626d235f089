/-
  The program's Text: its lines.
-/
import Derived.Test.YtdadfgaomighnaaGreatDoorTextD
namespace Go.Proofs.YtdadfgaomighnaaGreatDoor
open Go Go.RowKit

def pairCells (p : ByteArray × Int) : List Value := [.string p.1, .int .i64 p.2]
def prs (a : AuD) : List (ByteArray × Int) := [(nn0, a.inc), (nn1, a.first), (nn2, a.last), (nn3, a.check), (nn4, a.pages), (nn5, a.torn)]
def lineB (p : ByteArray × Int) : ByteArray := p.1 ++ spB ++ itoaB p.2
theorem heads_prs (a : AuD) : heads a = (prs a).map lineB := rfl

theorem StT.below {w0 : World} {bb : Nat} {cs : Array Value} {W W' : World} {v : Value} {l : List ByteArray} (h : StT w0 bb cs W v l) (hb : Below W.heap.size W W') : StT w0 bb cs W' v l := by
  obtain ⟨h1, h2, h3, h4⟩ := h
  exact ⟨h1.below hb h1.lt, own_upd h2 (Upd.ofBelow hb Nowhere) fun _ _ => id, h3.trans (hb.mono h3.size), Nat.le_trans h4 hb.size⟩
theorem StT.more2 {w0 : World} {bb : Nat} {cs : Array Value} {W : World} {v : Value} {l : List ByteArray} (h : StT w0 bb cs W v l) (hb : bb < w0.heap.size + 1) (hn : l.length ≤ 1000) (s : ByteArray) :
    ∃ A c w', (Builtin.append_ #[27, 27] 27 #[v, .slice (some ⟨W.heap.size, 0, none⟩) 1 1]).run Tryz.prog (W.alloc (.cells #[.string s] 9)) = .ok (.slice A (l.length + 1) c) w' ∧ StT w0 bb cs w' (.slice A (l.length + 1) c) (l ++ [s]) ∧
      ∀ g t cs, Blk W g t cs → t ≠ 9 → Blk w' g t cs := by
  obtain ⟨h1, h2, h3, h4⟩ := h
  obtain ⟨A, c, w', hrun, ho, hB, hK⟩ := run_append_str W (w0.heap.size + 1) v l.length l s h2 hn h4
  exact ⟨A, c, w', hrun, ⟨h1.below hB hb, by simpa using ho, h3.trans (hB.mono (by omega)), Nat.le_trans h4 hB.size⟩, hK⟩
theorem pair_small {a : AuD} {k : Nat} {p : ByteArray × Int} (h : (prs a)[k]? = some p) : p.1.size ≤ 10 := by
  have := List.mem_of_getElem? h
  simp only [prs, List.mem_cons, List.not_mem_nil, or_false] at this
  rcases this with rfl | rfl | rfl | rfl | rfl | rfl <;> exact of_decide_eq_true rfl
theorem pair_ok {a : AuD} (ha : a.ok) {k : Nat} {p : ByteArray × Int} (h : (prs a)[k]? = some p) : -9223372036854775808 ≤ p.2 ∧ p.2 ≤ 9223372036854775807 := by
  obtain ⟨⟨h0, h1, h2⟩, h3, h4, h5⟩ := ha
  have := List.mem_of_getElem? h
  simp only [prs, List.mem_cons, List.not_mem_nil, or_false] at this
  rcases this with rfl | rfl | rfl | rfl | rfl | rfl <;> assumption

set_option maxRecDepth 100000
set_option maxHeartbeats 8000000 in
theorem text_ok (a : AuD) (ha : a.ok) (A : Option Addr) (n c : Nat) (ns : List Int) (w : World) (hns : IntsE w (.slice A n c) ns) (hn : ns.length ≤ 60) (hp : PowAt w) (hg : 1 < w.heap.size) (hw : WrongsAt w) :
    Calls Tryz.prog 6 #[.agg (a.cells A n c)] w fun e w' => ∃ v, e = .returned v ∧ w'.ownsRow (w.heap.size + 1) 9 1 v (linesOf a ns).length (strV (linesOf a ns)) ∧ Below w.heap.size w w' := by
  have hnn : n = ns.length := by
    obtain ⟨A', c', h, _⟩ := hns.val
    injection h with _ h _
  subst hnn
  have HA := Lib.hid ha
  have HNS := Lib.hid hns
  have HN := Lib.hid hn
  have HP := Lib.hid hp
  have HW := Lib.hid hw
  have HG := Lib.hid hg
  clear ha hns hn hp hw hg
  unfold AuD.cells
  go_enter Tryz.func6, Tryz.ntmps6
  go_wp2_with fail
  have hS0 : StT w w.heap.size (a.cells A ns.length c) ((w.alloc (.cells (a.cells A ns.length c) 24)).alloc (.cells ((prs a).flatMap pairCells).toArray 47)) (.slice none 0 0) [] :=
    ⟨(Blk.new w _ _).alloc _, World.ownsRow_nil _ _ _ _, ((Below.refl _ _).alloc (Nat.le_refl _) _).alloc (by simp) _, by simp⟩
  have hK0 : Blk ((w.alloc (.cells (a.cells A ns.length c) 24)).alloc (.cells ((prs a).flatMap pairCells).toArray 47)) (w.heap.size + 1) 47 ((prs a).flatMap pairCells).toArray := Blk.new' _ _ _ (by simp)
  go_loopw [3, 28] (fun t i wr => ∃ (k : Nat) (A' : Option Addr) (c' : Nat), k ≤ 6 ∧ i = .int .i64 k ∧ t = .slice A' k c' ∧ StT w w.heap.size (a.cells A ns.length c) wr (.slice A' k c') (((prs a).take k).map lineB) ∧ Blk wr (w.heap.size + 1) 47 ((prs a).flatMap pairCells).toArray) (fun _ i _ => 6 - (intOf i).toNat)
  case atStart => exact ⟨0, _, _, Nat.zero_le _, rfl, rfl, hS0, hK0⟩
  case round =>
    clear hS0 hK0
    obtain ⟨k, A', c', hk, rfl, rfl, hS, hK⟩ := hrel
    by_cases hlt : k < 6
    · obtain ⟨p, hz⟩ : ∃ p, (prs a)[k]? = some p := ⟨_, List.getElem?_eq_getElem hlt⟩
      have hg0 : wr.cell? ⟨w.heap.size + 1, k * 2, none⟩ = some (.string p.1) := by
        rw [hK.cell]
        have := flatMap_get (sz := 2) (cells := pairCells) (fun _ => rfl) hz 0 (by omega)
        simpa [pairCells] using this
      have hg1 : wr.cell? ⟨w.heap.size + 1, k * 2 + 1, none⟩ = some (.int .i64 p.2) := by
        rw [hK.cell]
        have := flatMap_get (sz := 2) (cells := pairCells) (fun _ => rfl) hz 1 (by omega)
        simpa [pairCells] using this
      have hp1 := pair_small hz
      obtain ⟨hp2, hp3⟩ := pair_ok HA.out hz
      have hc1 : ∀ W, (Op.stringOp .add p.1 ⟨#[32]⟩).run Tryz.prog W = .ok (.string (p.1 ++ spB)) W := fun W => run_string_add_sum W p.1 spB (by have h : spB.size = 1 := rfl; omega)
      have hc2 : ∀ W, (Op.stringOp .add (p.1 ++ spB) (itoaB p.2)).run Tryz.prog W = .ok (.string (lineB p)) W := fun W => run_string_add_sum W (p.1 ++ spB) (itoaB p.2) (by have := itoaB_size p.2 hp2 hp3; have h : spB.size = 1 := rfl; rw [ByteArray.size_append]; omega)
      have hBel : Below wr.heap.size wr (wr.alloc (.cells #[.string p.1, .int .i64 p.2] 47)).drew := ((Below.refl _ _).alloc (Nat.le_refl _) _).drew
      have HBL := Lib.hid hBel
      have hI := itoa_all p.2 hp2 hp3 (wr.alloc (.cells #[.string p.1, .int .i64 p.2] 47)).drew (HP.out.below (hS.2.2.1.trans (hBel.mono hS.2.2.1.size)) HG.out)
      have HI := Lib.hid hI
      have HS := Lib.hid hS
      have HK := Lib.hid hK
      have HZ := Lib.hid hz
      clear hI hS hK hz hBel hp1 hp2 hp3
      go_upto_region 5 with (fail)
      have hx0 := (Blk.new wr 47 #[.string p.1, .int .i64 p.2]).cell 0
      have hx1 := (Blk.new wr 47 #[.string p.1, .int .i64 p.2]).cell 1
      go_region_held3 (fun w' => w'.cell? ⟨wr.heap.size, 0, none⟩ = some (.string p.1) ∧ w'.cell? ⟨wr.heap.size, 1, none⟩ = some (.int .i64 p.2)) (first | go_keep | exact ⟨hy0, hy1⟩ | exact ⟨hz0, hz1⟩)
        (first
          | (refine step_append_run rfl _ _ _ rfl rfl rfl HR.out ?_)
          | (go_at_call 16
             refine HI.out.mono ?_
             rintro e w2 ⟨rfl, hb2⟩
             have hy0 : w2.cell? ⟨wr.heap.size, 0, none⟩ = some (.string p.1) := (hb2.cell (p := ⟨wr.heap.size, 0, none⟩) (by simp [World.drew])).trans hx0
             have hy1 : w2.cell? ⟨wr.heap.size, 1, none⟩ = some (.int .i64 p.2) := (hb2.cell (p := ⟨wr.heap.size, 1, none⟩) (by simp [World.drew])).trans hx1
             have hb3 : Below wr.heap.size wr w2 := HBL.out.trans (hb2.mono HBL.out.size)
             obtain ⟨A2, c2, w3, hr, hS2, hK2⟩ := (HS.out.below hb3).more2 (by omega) (by simp; omega) (lineB p)
             have hl : (((prs a).take k).map lineB).length = k := by simp [prs]; omega
             rw [hl] at hr hS2
             have hyB : Blk w2 wr.heap.size 47 #[.string p.1, .int .i64 p.2] := (Blk.new wr 47 #[.string p.1, .int .i64 p.2]).drew.below hb2 (by simp [World.drew])
             have hzB := hK2 _ _ _ hyB (by decide)
             have hz0 := hzB.cell 0
             have hz1 := hzB.cell 1
             have HR := Lib.hid hr
             have HS2 := Lib.hid hS2
             have HK2 := Lib.hid hK2
             have HB3 := Lib.hid hb3
             clear hr hS2 hK2 hb3 hb2 hl hyB hzB))
      all_goals
        go_wp2
        go_roundw
        case rel =>
          refine ⟨k + 1, _, _, by omega, by go_num, rfl, ?_, HK2.out _ _ _ (HK.out.below HB3.out HK.out.lt) (by decide)⟩
          have := HS2.out
          rw [List.take_add_one, HZ.out]
          simpa using this
        case measure => simp [intOf]; omega
    · obtain rfl : k = 6 := by omega
      have e66 : ((6 : Nat) : Int) = 6 := rfl
      simp only [e66]
      clear e66
      have e6 : (prs a).take 6 = prs a := rfl
      rw [e6, ← heads_prs] at hS
      have hb := hS.1.cell
      unfold AuD.cells at hb
      have HS := Lib.hid hS
      have hn60 := HN.out
      clear hS hK hlt hk e6
      go_wp2_with fail
      go_loopw [3, 46] (fun t i wx => ∃ (k : Nat) (A' : Option Addr) (c' : Nat), k ≤ ns.length ∧ i = .int .i64 k ∧ t = .slice A' (6 + k) c' ∧ StT w w.heap.size (a.cells A ns.length c) wx (.slice A' (6 + k) c') (heads a ++ (ns.take k).map wrongB)) (fun _ i _ => ns.length - (intOf i).toNat)
      case atStart => exact ⟨0, _, _, Nat.zero_le _, rfl, rfl, by show StT _ _ _ _ _ (heads a ++ []); rw [List.append_nil]; exact HS.out⟩
      case round =>
        clear hb
        obtain ⟨k, A', c', hk, rfl, rfl, hS⟩ := hrel
        have hb := hS.1.cell
        unfold AuD.cells at hb
        by_cases hlt : k < ns.length
        · obtain ⟨z, hz⟩ : ∃ z, ns[k]? = some z := ⟨_, List.getElem?_eq_getElem hlt⟩
          have hc := HNS.out.below hS.2.2.1
          obtain ⟨b, off, c2, he, hbl, hcell⟩ := hc.get (fun _ => rfl) hz
          have hcz : wr.cell? ⟨b, off + k, none⟩ = some (.int .i64 z) := by simpa using hcell 0 (by omega)
          injection he with he1 he2 he3
          subst he1 he3
          obtain ⟨A2, c3, w2, hr, hS2⟩ := hS.more (by omega) (by simp [heads]; omega) (wrongB z)
          have hl : (heads a ++ (ns.take k).map wrongB).length = 6 + k := by simp [heads]; omega
          rw [hl] at hr hS2
          have hS3 : StT w w.heap.size (a.cells (some ⟨b, off, none⟩) ns.length c) w2 (.slice A2 (6 + (k + 1)) c3) (heads a ++ (ns.take (k + 1)).map wrongB) := by
            rw [show (ns.take (k + 1)).map wrongB = (ns.take k).map wrongB ++ [wrongB z] by rw [List.take_add_one, hz]; simp, ← List.append_assoc]
            exact hS2
          have hcw : ∀ W, (Op.stringOp .add ⟨#[119, 114, 111, 110, 103, 58, 32]⟩ (namedB z)).run Tryz.prog W = .ok (.string (wrongB z)) W := fun W => by
            rw [← named_wrong]
            exact run_string_add_sum W wrg (namedB z) (by
              have h : wrg.size = 7 := rfl
              have h2 : (namedB z).size ≤ 100 := by
                unfold namedB
                split
                · exact of_decide_eq_true rfl
                · split
                  · exact of_decide_eq_true rfl
                  · split <;> exact of_decide_eq_true rfl
              omega)
          have HNM := Lib.hid (named_ok z wr (HW.out.below hS.2.2.1))
          have H3 := Lib.hid hS3
          have HR := Lib.hid hr
          clear hS hS2 hS3 hr hl hc hcell hz
          go_wp2_with fail
          refine HNM.out.mono ?_
          rintro e wq ⟨rfl, rfl⟩
          go_wp2_with (at_builtin; refine wpList_append_run rfl _ _ _ rfl rfl rfl HR.out ?_; refine Hid.out ?_)
          refine Lib.hid ?_
          go_wp2
          go_roundw
          case rel => exact ⟨k + 1, _, _, by omega, by go_num, rfl, H3.out⟩
          case measure => simp [intOf]; omega
        · obtain rfl : k = ns.length := by omega
          rw [List.take_length] at hS
          have hl : (heads a ++ ns.map wrongB).length = 6 + ns.length := by simp [heads]; omega
          by_cases h0 : ns.length = 0
          · obtain rfl : ns = [] := List.eq_nil_of_length_eq_zero h0
            obtain ⟨A2, c3, w2, hr, hS2⟩ := hS.more (by omega) (by simp [heads]) none0
            simp only [List.map_nil, List.append_nil, List.length_nil] at hr hS2 hS hb hl
            have hl2 : (heads a).length = 6 := rfl
            rw [hl2] at hr hS2
            have H3 := Lib.hid hS2
            have HR := Lib.hid hr
            clear hS hS2 hr hl hl2 h0 hlt hk
            go_wp2_with (at_builtin; refine wpList_append_run rfl _ _ _ rfl rfl rfl HR.out ?_; refine Hid.out ?_)
            refine Lib.hid ?_
            go_wp2
            go_ret
            refine ⟨_, rfl, ?_, H3.out.2.2.1⟩
            have := H3.out.2.1
            rw [wp_linesOf]
            simpa [heads] using this
          · have H3 := Lib.hid hS
            have H0 := Lib.hid h0
            have h00 : (0 : Int) < ns.length := by omega
            have e0 : ((ns.length : Int) == 0) = false := by rw [beq_eq_false_iff_ne]; omega
            clear hS hl hlt hk h0
            go_wp2
            go_ret
            refine ⟨_, rfl, ?_, H3.out.2.2.1⟩
            rw [wp_linesOf, if_neg H0.out, List.append_nil]
            exact H3.out.2.1
end Go.Proofs.YtdadfgaomighnaaGreatDoor
