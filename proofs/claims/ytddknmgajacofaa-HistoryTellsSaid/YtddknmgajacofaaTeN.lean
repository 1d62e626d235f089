/-
  Those for whom each one waits: the program's map.
-/
import Derived.Test.YtddknmgajacofaaTeM
import Derived.Test.YtddknmgajacofaaTeL
namespace Go.Proofs.Ytddknmgajacofaa
open Go Go.RowKit

def outsN (E : Ed) (i : Nat) (t : Int) : List Int := ((E.take i).filter fun e => decide (e.1 = t)).map (·.2)
theorem outsN_succ {E : Ed} {i : Nat} {a b : Int} (h : E[i]? = some (a, b)) (t : Int) : outsN E (i + 1) t = if t = a then outsN E i a ++ [b] else outsN E i t := by
  unfold outsN
  rw [List.take_add_one, h, Option.toList_some, List.filter_append, List.map_append]
  by_cases e : t = a
  · subst e; simp
  · have : ¬ a = t := fun h => e h.symm
    simp [e, this]
theorem outsN_len (E : Ed) (i : Nat) (t : Int) : (outsN E i t).length ≤ E.length := by
  unfold outsN
  rw [List.length_map]
  refine Nat.le_trans (List.length_filter_le _ _) ?_
  simp
  omega
theorem outsN_mem (E : Ed) (a b : Int) : b ∈ outsN E E.length a ↔ (a, b) ∈ E := by
  unfold outsN
  rw [List.take_length, List.mem_map]
  constructor
  · rintro ⟨⟨x, y⟩, h, rfl⟩
    obtain ⟨h1, h2⟩ := List.mem_filter.1 h
    have : x = a := by simpa using h2
    subst this
    exact h1
  · intro h
    exact ⟨(a, b), List.mem_filter.2 ⟨h, by simp⟩, rfl⟩

set_option maxHeartbeats 4000000 in
set_option maxRecDepth 100000 in
theorem outs_ok {w : World} {v : Value} {E : Ed} (h : EdE w v E) (hl : E.length ≤ 5000) : Calls Try.prog 53 #[v] w fun r w' => r = .returned (.map (some w.heap.size)) ∧ GrI (w.heap.size + 1) w' w.heap.size (outsN E E.length) (numsP E E.length) ∧ Upd Nowhere w w' := by
  have hmm := @run_makeMap Try.prog
  obtain ⟨A, c, rfl, hc⟩ := h.val
  have H := Lib.hid h
  clear h
  go_enter Try.func53, Try.ntmps53
  go_wp2_with fail
  have HG0 := Lib.hid (GrI.new (w.heap.size + 1) w)
  have HU0 := Lib.hid ((Upd.refl Nowhere w).alloc (.map #[] 0))
  generalize hw1 : w.alloc (.map #[] 0) = w1 at *
  clear hw1
  go_loopw [11] (fun s wr => ∃ i : Nat, i ≤ E.length ∧ s = .int .i64 i ∧ GrI (w.heap.size + 1) wr w.heap.size (outsN E i) (numsP E i) ∧ Upd Nowhere w wr) (fun s _ => E.length - (intOf s).toNat)
  case atStart => exact ⟨0, by omega, rfl, HG0.out.congr (fun t => by simp [outsN]) (fun t => ⟨False.elim, numsP_zero E t⟩), HU0.out⟩
  case round =>
    obtain ⟨i, hi, rfl, hg, hu⟩ := hrel
    have HG := Lib.hid hg
    have HU := Lib.hid hu
    have HGS := Lib.hid hg.lt
    clear hg hu
    by_cases hlt : i < E.length
    · obtain ⟨⟨a, b⟩, he⟩ : ∃ e, E[i]? = some e := ⟨_, List.getElem?_eq_getElem hlt⟩
      obtain ⟨b1, o1, c1, hE1, hb1, q0, q1⟩ := edge_at (H.out.upd HU.out fun _ _ => id) he
      cases hE1
      have hii : (i : Int) < (E.length : Nat) := by omega
      have HE := Lib.hid he
      clear he
      go_upto_region 4 with (fail)
      go_cut [5, 11] (fun s t wz => s = .pointer (some ⟨wr.heap.size, 0, none⟩) ∧ t = .int .i64 i ∧ ∃ W, W = wz ∧ Blk W wr.heap.size 44 #[.int .i64 a, .int .i64 b] ∧ Upd Nowhere wr W)
      case first =>
        have hb0 := Blk.new wr 44 #[.int .i64 0, .int .i64 0]
        have c0 := hb0.cell
        have f0 := hb0.frozen
        clear hb0
        go_wp2_with fail
        go_meet
        exact ⟨rfl, rfl, _, rfl, Blk.new _ _ _, (Upd.refl _ _).alloc _⟩
      case rest =>
        obtain ⟨rfl, rfl, W, rfl, hB, hu⟩ := hcut
        have HGW := Lib.hid (HG.out.upd hu id fun _ _ _ _ _ => id)
        have HUW := Lib.hid (HU.out.trans (F := Nowhere) hu fun _ _ => id)
        have HB := Lib.hid hB
        have HSZ := Lib.hid (show w.heap.size + 1 ≤ wr.heap.size ∧ wr.heap.size < W.heap.size from ⟨HGS.out, hB.lt⟩)
        clear q0 q1 hB hu
        obtain ⟨vv, hlk, hov, hla, _⟩ := HGW.out.drew.look a
        obtain ⟨v', W1, W2, hr1, hr2, hG2, hU2, hE2, _⟩ := HGW.out.drew.push (by have := HSZ.out; simp; omega) (by omega) a b (Nat.le_trans (outsN_len E i a) hl) hlk
        have hbn : vv.ownBlock ≠ some wr.heap.size := OwnR.blk_ne (TE := 3) hov HB.out.drew (by decide)
        have hx := hE2 wr.heap.size (by have := HSZ.out; simp; omega) (by have := HSZ.out; omega) hbn
        have cW := HB.out.cell
        have K1 : Hid (Blk W1 wr.heap.size 44 #[.int .i64 a, .int .i64 b]) := Lib.hid (hx.1.trans HB.out)
        have K2 : Hid (Blk W2 wr.heap.size 44 #[.int .i64 a, .int .i64 b]) := Lib.hid (hx.2.trans HB.out)
        have hla : (Instr.lookup 48 (.map (some w.heap.size)) (.int .i64 a) false).run Try.prog (W.alloc (.cells #[.int .i64 b] 3)).drew = .ok vv (W.alloc (.cells #[.int .i64 b] 3)).drew := hla (.cells #[.int .i64 b] 3)
        have HR1 : Hid ((Builtin.append_ #[25, 25] 25 #[vv, .slice (some ⟨W.heap.size, 0, none⟩) 1 1]).run Try.prog (W.alloc (.cells #[.int .i64 b] 3)).drew = .ok v' W1) := Lib.hid hr1
        have HG2 := Lib.hid hG2
        have HU2 := Lib.hid hU2
        clear hov hr1 hG2 hU2 hE2 hbn hx
        go_upto_region 5 with (fail)
        go_cut [5, 11] (fun s t wz => s = .pointer (some ⟨wr.heap.size, 0, none⟩) ∧ t = .int .i64 i ∧ wz = W2)
        case first =>
          go_region_held3 (fun w' => w'.cell? ⟨wr.heap.size, 0, none⟩ = some (.int .i64 a) ∧ w'.cell? ⟨wr.heap.size, 1, none⟩ = some (.int .i64 b)) (first | exact ⟨cW 0, cW 1⟩ | exact ⟨K1.out.cell 0, K1.out.cell 1⟩ | exact ⟨K2.out.cell 0, K2.out.cell 1⟩ | go_keep)
            (refine step_append_run rfl _ _ _ rfl rfl rfl HR1.out ?_)
          all_goals
            go_wp2_with fail
            go_meet
            exact ⟨rfl, rfl, rfl⟩
        case rest =>
          obtain ⟨rfl, rfl, rfl⟩ := hcut
          obtain ⟨vb, _, _, _, bb, hl3, hbb⟩ := HG2.out.look b
          have k2 := K2.out.cell
          have HUF := Lib.hid (HUW.out.drew.trans (F := Nowhere) (G := fun k => k = w.heap.size ∨ w.heap.size + 1 ≤ k) HU2.out fun k hk h => by rcases h with h | h <;> omega)
          have hgf : ∀ t, (if t = a then outsN E i a ++ [b] else outsN E i t) = outsN E (i + 1) t := fun t => (outsN_succ HE.out t).symm
          have HGF := Lib.hid hgf
          have HBB := Lib.hid hbb
          clear cW hlk hla hr2 hgf hbb
          cases bb with
          | true =>
            have HD : Hid (∀ t, (t = a ∨ numsP E i t) ↔ numsP E (i + 1) t) := Lib.hid fun t => by
              rw [numsP_succ HE.out]
              have := HBB.out.1 rfl
              constructor
              · rintro (h | h)
                · exact .inr (.inl h)
                · exact .inl h
              · rintro (h | h | h)
                · exact .inr h
                · exact .inl h
                · subst h; exact this
            go_wp2_with fail
            go_roundw
            case rel => exact ⟨i + 1, by omega, by go_num, HG2.out.congr HGF.out HD.out, HUF.out⟩
            case measure => simp [intOf]; omega
          | false =>
            have hnd : ¬ (b = a ∨ numsP E i b) := fun h => by have := HBB.out.2 h; cases this
            obtain ⟨W3, hr3, hG3, hU3, _⟩ := HG2.out.mark (by omega) b hnd
            have HR3 := Lib.hid hr3
            have HG3 := Lib.hid hG3
            have HU3 := Lib.hid (HUF.out.trans (F := Nowhere) hU3 fun k hk h => by omega)
            have HD : Hid (∀ t, (t = b ∨ t = a ∨ numsP E i t) ↔ numsP E (i + 1) t) := Lib.hid fun t => by
              rw [numsP_succ HE.out]
              constructor
              · rintro (h | h | h)
                · exact .inr (.inr h)
                · exact .inr (.inl h)
                · exact .inl h
              · rintro (h | h | h)
                · exact .inr (.inr h)
                · exact .inr (.inl h)
                · exact .inl h
            clear hr3 hG3 hU3 hnd
            go_wp2_with (at_mapUpdate; refine wpList_update_run rfl _ _ _ _ rfl rfl rfl rfl HR3.out ?_)
            go_roundw
            case rel => exact ⟨i + 1, by omega, by go_num, HG3.out.congr HGF.out HD.out, HU3.out⟩
            case measure => simp [intOf]; omega
    · have hii : ¬ (i : Int) < (E.length : Nat) := by omega
      obtain rfl : i = E.length := by omega
      go_wp2_with fail
      go_ret
      exact ⟨rfl, HG.out, HU.out⟩
end Go.Proofs.Ytddknmgajacofaa
