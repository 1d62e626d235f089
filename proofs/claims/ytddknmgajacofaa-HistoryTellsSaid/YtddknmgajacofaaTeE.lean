/-
  The document's AddEdge; SameInts and SameEdges of the same.
-/
import Derived.Test.YtddknmgajacofaaTeC
import Derived.Test.YtddknmgajacofaaHistT
namespace Go.Proofs.Ytddknmgajacofaa
open Go Go.RowKit

abbrev OwnP := OwnR 44 dirtyCells 2
theorem rkP : RowK Try.prog 32 44 dirtyCells 2 := ⟨Try.underlying32, ⟨.agg #[.int .i64 0, .int .i64 0], 16, by kernel_rfl, rfl, by decide⟩, dirtyCells_len, fun a u hu => by
  simp only [dirtyCells, List.mem_cons, List.not_mem_nil, or_false] at hu
  rcases hu with rfl | rfl <;> rfl, by decide⟩
theorem addE_split : ∀ {L : Ed} {p : Int × Int} {j : Nat}, j ≤ L.length → (∀ i q, i < j → L[i]? = some q → ltE q p) → (∀ q, L[j]? = some q → ¬ ltE q p) →
    addE L p = L.take j ++ p :: L.drop (if L[j]? = some p then j + 1 else j)
  | [], p, j, h, _, _ => by simp at h; subst h; simp [addE]
  | q :: r, p, 0, _, _, h2 => by
    have h3 := h2 q rfl
    simp only [addE, if_neg h3]
    by_cases h4 : q = p
    · simp [h4]
    · simp [h4]
  | q :: r, p, j + 1, h, h1, h2 => by
    have h3 := h1 0 _ (by omega) rfl
    simp only [addE, if_pos h3, List.take_succ_cons, List.getElem?_cons_succ, List.cons_append]
    rw [addE_split (j := j) (by simpa using h) (fun i p hi hp => h1 (i + 1) p (by omega) (by simpa using hp)) (fun p hp => h2 p (by simpa using hp))]
    congr 2
    split <;> rfl
theorem run_build_pair (a b : Int) (w : World) : (Instr.build 44 #[(0, .int .i64 a), (1, .int .i64 b)]).run Try.prog w = .ok (.agg #[.int .i64 a, .int .i64 b]) w := run_build w 44 _ _ (by kernel_rfl)
theorem run_equal_pair (a b c d : Int) (w : World) : (Op.equalIn 10000 44 (.agg #[.int .i64 a, .int .i64 b]) (.agg #[.int .i64 c, .int .i64 d])).run Try.prog w = .ok (decide (a = c ∧ b = d)) w := by
  have u3 := Try.underlying3
  have a3 := Try.isAgg3
  have z3 := Try.sizeOf3
  rw [show (10000 : Nat) = 9999 + 1 from rfl, Op.equalIn]
  simp only [Sem.run_bind, run_underlying Try.underlying44, Result.andThen_ok]
  simp only [Std.Legacy.Range.forIn_eq_forIn_range', Std.Legacy.Range.size, Nat.sub_zero, Nat.add_sub_cancel, Nat.div_one, List.range'_succ, List.range'_zero, List.forIn_cons, List.forIn_nil]
  go_simp
  by_cases h1 : a = c <;> by_cases h2 : b = d <;> simp [h1, h2]
theorem flatP_drop (L : Ed) (j : Nat) : (L.drop j).flatMap dirtyCells = (L.flatMap dirtyCells).drop (j * 2) := by
  induction L generalizing j with
  | nil => simp
  | cons p L ih =>
    cases j with
    | zero => simp
    | succ j =>
      rw [List.drop_succ_cons, ih, show (j + 1) * 2 = 2 + j * 2 by omega, show (p :: L).flatMap dirtyCells = dirtyCells p ++ L.flatMap dirtyCells from rfl, ← List.drop_drop, List.drop_left' (dirtyCells_len p)]
theorem edge_cells {w : World} {b off c : Nat} {L : Ed} (h : EdE w (.slice (some ⟨b, off, none⟩) L.length c) L) (h0 : 0 < L.length) (j : Nat) : ∀ i u, ((L.drop j).flatMap dirtyCells)[i]? = some u → w.cell? ((⟨b, off + j * 2, none⟩ : Addr).add i) = some u := by
  obtain ⟨b', off', c', he, _, hc⟩ := Reads.addr h h0
  cases he
  intro i u hi
  rw [flatP_drop, List.getElem?_drop] at hi
  have e : (⟨b, off + j * 2, none⟩ : Addr).add i = ⟨b, off + (j * 2 + i), none⟩ := by unfold Addr.add; split <;> simp_all [Nat.add_assoc]
  rw [e]
  exact hc _ _ hi
set_option maxHeartbeats 4000000 in
set_option maxRecDepth 100000 in
theorem addEdge_ok {w : World} {v : Value} {L : Ed} (h : EdE w v L) (hl : L.length ≤ 10000) (hA : L = [] → v = .slice none 0 0) (a b : Int) : Calls Try.prog 36 #[v, .agg #[.int .i64 a, .int .i64 b]] w fun r w' => ∃ v', r = .returned v' ∧ OwnP w.heap.size w' v' (addE L (a, b)) ∧ Upd Nowhere w w' := by
  obtain ⟨A, c, rfl, hc⟩ := h.val
  have hb0 := Blk.new w 44 #[.int .i64 a, .int .i64 b]
  have HU0 := Lib.hid ((Upd.refl Nowhere w).alloc (.cells #[.int .i64 a, .int .i64 b] 44))
  have HB0 := Lib.hid hb0
  have H := Lib.hid h
  have HA := Lib.hid hA
  have hle : w.heap.size ≤ (w.alloc (.cells #[.int .i64 a, .int .i64 b] 44)).heap.size := HU0.out.size
  clear h hb0 hA
  go_enter Try.func36, Try.ntmps36
  go_wp2_with fail
  generalize w.alloc (.cells #[.int .i64 a, .int .i64 b] 44) = w1 at *
  go_loopw [5, 6] (fun t s wr => ∃ j : Nat, j ≤ L.length ∧ s = .int .i64 j ∧ (∀ i p, i < j → L[i]? = some p → ltE p (a, b)) ∧ OwnP (w.heap.size + 1) wr t (L.take j) ∧ Upd Nowhere w wr ∧ Blk wr w.heap.size 44 #[.int .i64 a, .int .i64 b] ∧ w.heap.size < wr.heap.size) (fun _ s _ => L.length - (intOf s).toNat)
  case atStart => exact ⟨0, by omega, rfl, fun i p hi => absurd hi (by omega), OwnR.nil _ _ _ _ _, HU0.out, HB0.out, HB0.out.lt⟩
  case round =>
    obtain ⟨j, hj, rfl, hno, hO, hU, hB, hsz⟩ := hrel
    have HNO := Lib.hid hno
    have HO := Lib.hid hO
    have HU := Lib.hid hU
    have HB := Lib.hid hB
    have HT := Lib.hid (List.length_take_le j L)
    clear hno hO hU hB
    have cb := HB.out.cell
    by_cases hlt : j < L.length
    · obtain ⟨⟨x, y⟩, hp⟩ : ∃ p, L[j]? = some p := ⟨_, List.getElem?_eq_getElem hlt⟩
      obtain ⟨b1, off, c', he, hb1, q0, q1⟩ := edge_at (H.out.upd HU.out fun _ _ => id) hp
      cases he
      have hi : (j : Int) < (L.length : Nat) := by omega
      have HP := Lib.hid hp
      clear hp
      by_cases hx : x < a
      · have HLT : Hid (ltE (x, y) (a, b)) := Lib.hid (by unfold ltE; simp; omega)
        go_upto_region 3 with (fail)
        go_cut [40] (fun s wz => s = .bool true ∧ Upd Nowhere wr wz)
        case first =>
          go_quiet (fail)
          go_wp2_with fail
          go_meet
          exact ⟨rfl, (Upd.refl Nowhere wr).drewN _⟩
        case rest =>
          obtain ⟨rfl, huq⟩ := hcut
          have HOQ := Lib.hid (HO.out.upd huq fun _ _ => id)
          have HUQ := Lib.hid (HU.out.trans (F := Nowhere) huq fun _ _ => id)
          have HBQ := Lib.hid (HB.out.upd huq id)
          have HSQ := Lib.hid (Nat.lt_of_lt_of_le hsz huq.size)
          obtain ⟨b1', off', c'', he', hb1', r0, r1⟩ := edge_at (H.out.upd HUQ.out fun _ _ => id) HP.out
          cases he'
          clear q0 q1 cb
          obtain ⟨v3, w3, hr3, ho3, hg3, hb3⟩ := rkP.app1 HOQ.out (by have := HSQ.out; omega) 32 (x, y) #[.int .i64 x, .int .i64 y] rfl (by have := HT.out; omega)
          have HR3 := Lib.hid hr3
          have HO3 := Lib.hid ho3
          have HG3 := Lib.hid hg3
          clear hr3 ho3 hg3 hb3 huq
          go_wp2_with (at_builtin; refine wpList_append_run rfl _ _ _ rfl rfl rfl HR3.out ?_)
          go_roundw
          case rel =>
            refine ⟨j + 1, by omega, by go_num, fun i p hij hp => ?_, ?_, HUQ.out.grown HG3.out fun k hk h => by have := HOQ.out.new k hk; omega, ?_, by have := HG3.out.size; have := HSQ.out; omega⟩
            · rcases (by omega : i < j ∨ i = j) with h1 | rfl
              · exact HNO.out i p h1 hp
              · rw [HP.out] at hp; cases hp; exact HLT.out
            · rw [List.take_add_one, HP.out]
              exact HO3.out
            · exact (HG3.out.block _ HSQ.out fun e => absurd (HOQ.out.new _ e.symm) (by omega)).trans HBQ.out
          case measure => simp [intOf]; omega
      · by_cases hxe : x = a
        · subst hxe
          by_cases hy : y < b
          · have HLT : Hid (ltE (x, y) (x, b)) := Lib.hid (by unfold ltE; simp; omega)
            go_upto_region 3 with (fail)
            go_cut [40] (fun s wz => s = .bool true ∧ Upd Nowhere wr wz)
            case first =>
              go_quiet (fail)
              go_wp2_with fail
              go_meet
              exact ⟨rfl, (Upd.refl Nowhere wr).drewN _⟩
            case rest =>
              obtain ⟨rfl, huq⟩ := hcut
              have HOQ := Lib.hid (HO.out.upd huq fun _ _ => id)
              have HUQ := Lib.hid (HU.out.trans (F := Nowhere) huq fun _ _ => id)
              have HBQ := Lib.hid (HB.out.upd huq id)
              have HSQ := Lib.hid (Nat.lt_of_lt_of_le hsz huq.size)
              obtain ⟨b1', off', c'', he', hb1', r0, r1⟩ := edge_at (H.out.upd HUQ.out fun _ _ => id) HP.out
              cases he'
              clear q0 q1 cb
              obtain ⟨v3, w3, hr3, ho3, hg3, hb3⟩ := rkP.app1 HOQ.out (by have := HSQ.out; omega) 32 (x, y) #[.int .i64 x, .int .i64 y] rfl (by have := HT.out; omega)
              have HR3 := Lib.hid hr3
              have HO3 := Lib.hid ho3
              have HG3 := Lib.hid hg3
              clear hr3 ho3 hg3 hb3 huq
              go_wp2_with (at_builtin; refine wpList_append_run rfl _ _ _ rfl rfl rfl HR3.out ?_)
              go_roundw
              case rel =>
                refine ⟨j + 1, by omega, by go_num, fun i p hij hp => ?_, ?_, HUQ.out.grown HG3.out fun k hk h => by have := HOQ.out.new k hk; omega, ?_, by have := HG3.out.size; have := HSQ.out; omega⟩
                · rcases (by omega : i < j ∨ i = j) with h1 | rfl
                  · exact HNO.out i p h1 hp
                  · rw [HP.out] at hp; cases hp; exact HLT.out
                · rw [List.take_add_one, HP.out]
                  exact HO3.out
                · exact (HG3.out.block _ HSQ.out fun e => absurd (HOQ.out.new _ e.symm) (by omega)).trans HBQ.out
              case measure => simp [intOf]; omega
          · by_cases hye : y = b
            · subst hye
              go_upto_region 3 with (fail)
              go_cut [40] (fun s wz => s = .bool false ∧ Upd Nowhere wr wz)
              case first =>
                go_quiet (fail)
                go_wp2_with fail
                go_meet
                exact ⟨rfl, (Upd.refl Nowhere wr).drewN _⟩
              case rest =>
                obtain ⟨rfl, huq⟩ := hcut
                have HOQ := Lib.hid (HO.out.upd huq fun _ _ => id)
                have HUQ := Lib.hid (HU.out.trans (F := Nowhere) huq fun _ _ => id)
                have HBQ := Lib.hid (HB.out.upd huq id)
                have HSQ := Lib.hid (Nat.lt_of_lt_of_le hsz huq.size)
                have cbq := HBQ.out.cell
                clear q0 q1 cb
                obtain ⟨v3, w3, hr3, ho3, hg3, hb3⟩ := rkP.app1 HOQ.out (by have := HSQ.out; omega) 32 (x, y) #[.int .i64 x, .int .i64 y] rfl (by have := HT.out; omega)
                have HR3 := Lib.hid hr3
                have HO3 := Lib.hid ho3
                have HB3 := Lib.hid (show Blk w3 w.heap.size 44 #[.int .i64 x, .int .i64 y] from (hg3.block _ HSQ.out fun e => absurd (HOQ.out.new _ e.symm) (by omega)).trans HBQ.out)
                have HU3 := Lib.hid (HUQ.out.grown hg3 fun k hk h => by have := HOQ.out.new k hk; omega)
                have HS3 := Lib.hid (Nat.lt_of_lt_of_le HSQ.out hg3.size)
                clear hr3 ho3 hg3 hb3 huq
                go_upto_region 7 with (at_builtin; refine wpList_append_run rfl _ _ _ rfl rfl rfl HR3.out ?_)
                have c3 := HB3.out.cell
                clear cbq
                obtain ⟨b1', off', c'', he', hb1', r0, r1⟩ := edge_at (H.out.upd HU3.out fun _ _ => id) HP.out
                cases he'
                have hE := run_equal_pair x y x y
                simp only [and_self, decide_true] at hE
                go_cut [65] (fun s wz => s = .bool true ∧ Upd Nowhere w3 wz)
                case first =>
                  go_quiet (fail)
                  go_wp2_with fail
                  go_meet
                  exact ⟨rfl, (Upd.refl Nowhere w3).drewN _⟩
                case rest =>
                  obtain ⟨rfl, huz⟩ := hcut
                  have HOZ := Lib.hid (HO3.out.upd huz fun _ _ => id)
                  have HUZ := Lib.hid (HU3.out.trans (F := Nowhere) huz fun _ _ => id)
                  have HSZ := Lib.hid (Nat.lt_of_lt_of_le HS3.out huz.size)
                  have HSPL : Hid (addE L (x, y) = L.take j ++ (x, y) :: L.drop (j + 1)) := Lib.hid (by
                    rw [addE_split hj HNO.out (fun q hq => by rw [HP.out] at hq; cases hq; exact ltE_irrefl _)]
                    rw [if_pos HP.out])
                  clear c3 huz r0 r1 hE
                  by_cases hcap : c = j + 1
                  · obtain ⟨v5, w5, hr5, ho5, hg5, hb5⟩ := rkP.app HOZ.out (by have := HSZ.out; omega) 32 ⟨b1, off, none⟩ (L.length - (j + 1)) (c - (j + 1)) (L.drop (j + 1)) (by simp) (fun i u hi => by rw [List.drop_of_length_le (by omega)] at hi; simp at hi) (by have := HT.out; simp; omega)
                    have HR5 := Lib.hid hr5
                    have HO5 := Lib.hid ho5
                    have HG5 := Lib.hid hg5
                    clear hr5 ho5 hg5 hb5
                    go_wp2_with (at_builtin; refine wpList_append_run rfl _ _ _ rfl rfl rfl HR5.out ?_)
                    go_ret
                    refine ⟨_, rfl, ?_, HUZ.out.grown HG5.out fun k hk h => by have := HOZ.out.new k hk; omega⟩
                    rw [HSPL.out]
                    have h9 := HO5.out.far (B' := w.heap.size) fun k hk => by have := HO5.out.new k hk; omega
                    simpa using h9
                  · obtain ⟨v5, w5, hr5, ho5, hg5, hb5⟩ := rkP.app HOZ.out (by have := HSZ.out; omega) 32 ⟨b1, off + (j + 1) * 2, none⟩ (L.length - (j + 1)) (c - (j + 1)) (L.drop (j + 1)) (by simp) (edge_cells (H.out.upd HUZ.out fun _ _ => id) (by omega) (j + 1)) (by have := HT.out; simp; omega)
                    have HR5 := Lib.hid hr5
                    have HO5 := Lib.hid ho5
                    have HG5 := Lib.hid hg5
                    clear hr5 ho5 hg5 hb5
                    go_wp2_with (at_builtin; refine wpList_append_run rfl _ _ _ rfl rfl rfl HR5.out ?_)
                    go_ret
                    refine ⟨_, rfl, ?_, HUZ.out.grown HG5.out fun k hk h => by have := HOZ.out.new k hk; omega⟩
                    rw [HSPL.out]
                    have h9 := HO5.out.far (B' := w.heap.size) fun k hk => by have := HO5.out.new k hk; omega
                    simpa using h9
            · have HNL : Hid (¬ ltE (x, y) (x, b)) := Lib.hid (by unfold ltE; simp; omega)
              have HNE : Hid (¬ (x = x ∧ y = b)) := Lib.hid (by omega)
              have hcj : ¬ c = j := by omega
              go_upto_region 3 with (fail)
              go_cut [40] (fun s wz => s = .bool false ∧ Upd Nowhere wr wz)
              case first =>
                go_quiet (fail)
                go_wp2_with fail
                go_meet
                exact ⟨rfl, (Upd.refl Nowhere wr).drewN _⟩
              case rest =>
                obtain ⟨rfl, huq⟩ := hcut
                have HOQ := Lib.hid (HO.out.upd huq fun _ _ => id)
                have HUQ := Lib.hid (HU.out.trans (F := Nowhere) huq fun _ _ => id)
                have HBQ := Lib.hid (HB.out.upd huq id)
                have HSQ := Lib.hid (Nat.lt_of_lt_of_le hsz huq.size)
                have cbq := HBQ.out.cell
                clear q0 q1 cb
                obtain ⟨v3, w3, hr3, ho3, hg3, hb3⟩ := rkP.app1 HOQ.out (by have := HSQ.out; omega) 32 (x, b) #[.int .i64 x, .int .i64 b] rfl (by have := HT.out; omega)
                have HR3 := Lib.hid hr3
                have HO3 := Lib.hid ho3
                have HB3 := Lib.hid (show Blk w3 w.heap.size 44 #[.int .i64 x, .int .i64 b] from (hg3.block _ HSQ.out fun e => absurd (HOQ.out.new _ e.symm) (by omega)).trans HBQ.out)
                have HU3 := Lib.hid (HUQ.out.grown hg3 fun k hk h => by have := HOQ.out.new k hk; omega)
                have HS3 := Lib.hid (Nat.lt_of_lt_of_le HSQ.out hg3.size)
                clear hr3 ho3 hg3 hb3 huq
                go_upto_region 7 with (at_builtin; refine wpList_append_run rfl _ _ _ rfl rfl rfl HR3.out ?_)
                have c3 := HB3.out.cell
                clear cbq
                obtain ⟨b1', off', c'', he', hb1', r0, r1⟩ := edge_at (H.out.upd HU3.out fun _ _ => id) HP.out
                cases he'
                have hE := run_equal_pair x y x b
                rw [decide_eq_false HNE.out] at hE
                go_cut [65] (fun s wz => s = .bool false ∧ Upd Nowhere w3 wz)
                case first =>
                  go_quiet (fail)
                  go_wp2_with fail
                  go_meet
                  exact ⟨rfl, (Upd.refl Nowhere w3).drewN _⟩
                case rest =>
                  obtain ⟨rfl, huz⟩ := hcut
                  have HOZ := Lib.hid (HO3.out.upd huz fun _ _ => id)
                  have HUZ := Lib.hid (HU3.out.trans (F := Nowhere) huz fun _ _ => id)
                  have HSZ := Lib.hid (Nat.lt_of_lt_of_le HS3.out huz.size)
                  have HSPL : Hid (addE L (x, b) = L.take j ++ (x, b) :: L.drop j) := Lib.hid (by
                    rw [addE_split hj HNO.out (fun q hq => by rw [HP.out] at hq; cases hq; exact HNL.out)]
                    rw [if_neg (fun e => by rw [HP.out] at e; have e2 := Option.some.inj e; simp only [Prod.mk.injEq] at e2; exact HNE.out (by simpa using e2))])
                  clear c3 huz r0 r1 hE
                  obtain ⟨v5, w5, hr5, ho5, hg5, hb5⟩ := rkP.app HOZ.out (by have := HSZ.out; omega) 32 ⟨b1, off + j * 2, none⟩ (L.length - j) (c - j) (L.drop j) (by simp) (edge_cells (H.out.upd HUZ.out fun _ _ => id) (by omega) j) (by have := HT.out; simp; omega)
                  have HR5 := Lib.hid hr5
                  have HO5 := Lib.hid ho5
                  have HG5 := Lib.hid hg5
                  clear hr5 ho5 hg5 hb5
                  go_wp2_with (at_builtin; refine wpList_append_run rfl _ _ _ rfl rfl rfl HR5.out ?_)
                  go_ret
                  refine ⟨_, rfl, ?_, HUZ.out.grown HG5.out fun k hk h => by have := HOZ.out.new k hk; omega⟩
                  rw [HSPL.out]
                  have h9 := HO5.out.far (B' := w.heap.size) fun k hk => by have := HO5.out.new k hk; omega
                  simpa using h9
        · have HNL : Hid (¬ ltE (x, y) (a, b)) := Lib.hid (by unfold ltE; simp; omega)
          have HNE : Hid (¬ (x = a ∧ y = b)) := Lib.hid (by omega)
          have hcj : ¬ c = j := by omega
          go_upto_region 3 with (fail)
          go_cut [40] (fun s wz => s = .bool false ∧ Upd Nowhere wr wz)
          case first =>
            go_quiet (fail)
            go_wp2_with fail
            go_meet
            exact ⟨rfl, (Upd.refl Nowhere wr).drewN _⟩
          case rest =>
            obtain ⟨rfl, huq⟩ := hcut
            have HOQ := Lib.hid (HO.out.upd huq fun _ _ => id)
            have HUQ := Lib.hid (HU.out.trans (F := Nowhere) huq fun _ _ => id)
            have HBQ := Lib.hid (HB.out.upd huq id)
            have HSQ := Lib.hid (Nat.lt_of_lt_of_le hsz huq.size)
            have cbq := HBQ.out.cell
            clear q0 q1 cb
            obtain ⟨v3, w3, hr3, ho3, hg3, hb3⟩ := rkP.app1 HOQ.out (by have := HSQ.out; omega) 32 (a, b) #[.int .i64 a, .int .i64 b] rfl (by have := HT.out; omega)
            have HR3 := Lib.hid hr3
            have HO3 := Lib.hid ho3
            have HB3 := Lib.hid (show Blk w3 w.heap.size 44 #[.int .i64 a, .int .i64 b] from (hg3.block _ HSQ.out fun e => absurd (HOQ.out.new _ e.symm) (by omega)).trans HBQ.out)
            have HU3 := Lib.hid (HUQ.out.grown hg3 fun k hk h => by have := HOQ.out.new k hk; omega)
            have HS3 := Lib.hid (Nat.lt_of_lt_of_le HSQ.out hg3.size)
            clear hr3 ho3 hg3 hb3 huq
            go_upto_region 7 with (at_builtin; refine wpList_append_run rfl _ _ _ rfl rfl rfl HR3.out ?_)
            have c3 := HB3.out.cell
            clear cbq
            obtain ⟨b1', off', c'', he', hb1', r0, r1⟩ := edge_at (H.out.upd HU3.out fun _ _ => id) HP.out
            cases he'
            have hE := run_equal_pair x y a b
            rw [decide_eq_false HNE.out] at hE
            go_cut [65] (fun s wz => s = .bool false ∧ Upd Nowhere w3 wz)
            case first =>
              go_quiet (fail)
              go_wp2_with fail
              go_meet
              exact ⟨rfl, (Upd.refl Nowhere w3).drewN _⟩
            case rest =>
              obtain ⟨rfl, huz⟩ := hcut
              have HOZ := Lib.hid (HO3.out.upd huz fun _ _ => id)
              have HUZ := Lib.hid (HU3.out.trans (F := Nowhere) huz fun _ _ => id)
              have HSZ := Lib.hid (Nat.lt_of_lt_of_le HS3.out huz.size)
              have HSPL : Hid (addE L (a, b) = L.take j ++ (a, b) :: L.drop j) := Lib.hid (by
                rw [addE_split hj HNO.out (fun q hq => by rw [HP.out] at hq; cases hq; exact HNL.out)]
                rw [if_neg (fun e => by rw [HP.out] at e; have e2 := Option.some.inj e; simp only [Prod.mk.injEq] at e2; exact HNE.out (by simpa using e2))])
              clear c3 huz r0 r1 hE
              obtain ⟨v5, w5, hr5, ho5, hg5, hb5⟩ := rkP.app HOZ.out (by have := HSZ.out; omega) 32 ⟨b1, off + j * 2, none⟩ (L.length - j) (c - j) (L.drop j) (by simp) (edge_cells (H.out.upd HUZ.out fun _ _ => id) (by omega) j) (by have := HT.out; simp; omega)
              have HR5 := Lib.hid hr5
              have HO5 := Lib.hid ho5
              have HG5 := Lib.hid hg5
              clear hr5 ho5 hg5 hb5
              go_wp2_with (at_builtin; refine wpList_append_run rfl _ _ _ rfl rfl rfl HR5.out ?_)
              go_ret
              refine ⟨_, rfl, ?_, HUZ.out.grown HG5.out fun k hk h => by have := HOZ.out.new k hk; omega⟩
              rw [HSPL.out]
              have h9 := HO5.out.far (B' := w.heap.size) fun k hk => by have := HO5.out.new k hk; omega
              simpa using h9
    · obtain rfl : j = L.length := by omega
      have hji : ¬ (L.length : Int) < (L.length : Nat) := by omega
      go_upto_region 3 with (fail)
      go_cut [40] (fun s wz => s = .bool false ∧ Upd Nowhere wr wz)
      case first =>
        go_quiet (fail)
        go_wp2_with fail
        go_meet
        exact ⟨rfl, (Upd.refl Nowhere wr).drewN _⟩
      case rest =>
        obtain ⟨rfl, huq⟩ := hcut
        have HOQ := Lib.hid (HO.out.upd huq fun _ _ => id)
        have HUQ := Lib.hid (HU.out.trans (F := Nowhere) huq fun _ _ => id)
        have HBQ := Lib.hid (HB.out.upd huq id)
        have HSQ := Lib.hid (Nat.lt_of_lt_of_le hsz huq.size)
        have cbq := HBQ.out.cell
        clear cb
        obtain ⟨v3, w3, hr3, ho3, hg3, hb3⟩ := rkP.app1 HOQ.out (by have := HSQ.out; omega) 32 (a, b) #[.int .i64 a, .int .i64 b] rfl (by have := HT.out; omega)
        have HR3 := Lib.hid hr3
        have HO3 := Lib.hid ho3
        have HB3 := Lib.hid (show Blk w3 w.heap.size 44 #[.int .i64 a, .int .i64 b] from (hg3.block _ HSQ.out fun e => absurd (HOQ.out.new _ e.symm) (by omega)).trans HBQ.out)
        have HU3 := Lib.hid (HUQ.out.grown hg3 fun k hk h => by have := HOQ.out.new k hk; omega)
        have HS3 := Lib.hid (Nat.lt_of_lt_of_le HSQ.out hg3.size)
        clear hr3 ho3 hg3 hb3 huq
        go_upto_region 7 with (at_builtin; refine wpList_append_run rfl _ _ _ rfl rfl rfl HR3.out ?_)
        have c3 := HB3.out.cell
        clear cbq
        skip
        go_cut [65] (fun s wz => s = .bool false ∧ Upd Nowhere w3 wz)
        case first =>
          go_quiet (fail)
          go_wp2_with fail
          go_meet
          exact ⟨rfl, (Upd.refl Nowhere w3).drewN _⟩
        case rest =>
          obtain ⟨rfl, huz⟩ := hcut
          have HOZ := Lib.hid (HO3.out.upd huz fun _ _ => id)
          have HUZ := Lib.hid (HU3.out.trans (F := Nowhere) huz fun _ _ => id)
          have HSZ := Lib.hid (Nat.lt_of_lt_of_le HS3.out huz.size)
          have HSPL : Hid (addE L (a, b) = L.take L.length ++ (a, b) :: L.drop L.length) := Lib.hid (by
            rw [addE_split hj HNO.out (fun q hq => by rw [List.getElem?_eq_none (by omega)] at hq; cases hq)]
            rw [if_neg (fun e => by rw [List.getElem?_eq_none (by omega)] at e; cases e)])
          clear c3 huz
          by_cases hL : L = []
          · subst hL
            have hv := HA.out rfl
            simp only [List.length_nil, Value.slice.injEq, true_and] at hv
            obtain ⟨rfl, rfl⟩ := hv
            obtain ⟨A3, c3, rfl, hc3⟩ := HOZ.out.els.val
            have HR5 : Hid (∀ W, (Builtin.append_ #[32, 32] 32 #[.slice A3 (List.take ([] : Ed).length [] ++ [(a, b)]).length c3, .slice none 0 0]).run Try.prog W = .ok (.slice A3 (List.take ([] : Ed).length [] ++ [(a, b)]).length c3) W) := Lib.hid fun W => (append_none rkP.und (Try.sizeOf44) _ _ _ _ _ _ hc3)
            clear hc3
            go_wp2_with (at_builtin; refine wpList_append_run rfl _ _ _ rfl rfl rfl (HR5.out _) ?_)
            go_ret
            refine ⟨_, rfl, ?_, HUZ.out⟩
            rw [HSPL.out]
            have h9 := HOZ.out.far (B' := w.heap.size) fun k hk => by have := HOZ.out.new k hk; omega
            simpa using h9
          · obtain ⟨b1, off, c', he, _, _⟩ := Reads.addr H.out (List.length_pos_iff.2 hL)
            cases he
            have HL0 := Lib.hid hL
            clear hL
            by_cases hcap : c = L.length
            · obtain ⟨v5, w5, hr5, ho5, hg5, hb5⟩ := rkP.app HOZ.out (by have := HSZ.out; omega) 32 ⟨b1, off, none⟩ 0 0 [] rfl (fun i u hi => by simp at hi) (by have := HT.out; simp; omega)
              have HR5 := Lib.hid hr5
              have HO5 := Lib.hid ho5
              have HG5 := Lib.hid hg5
              clear hr5 ho5 hg5 hb5
              go_wp2_with (at_builtin; refine wpList_append_run rfl _ _ _ rfl rfl rfl HR5.out ?_)
              go_ret
              refine ⟨_, rfl, ?_, HUZ.out.grown HG5.out fun k hk h => by have := HOZ.out.new k hk; omega⟩
              rw [HSPL.out]
              have h9 := HO5.out.far (B' := w.heap.size) fun k hk => by have := HO5.out.new k hk; omega
              simpa using h9
            · obtain ⟨v5, w5, hr5, ho5, hg5, hb5⟩ := rkP.app HOZ.out (by have := HSZ.out; omega) 32 ⟨b1, off + L.length * 2, none⟩ 0 (c - L.length) [] rfl (fun i u hi => by simp at hi) (by have := HT.out; simp; omega)
              have HR5 := Lib.hid hr5
              have HO5 := Lib.hid ho5
              have HG5 := Lib.hid hg5
              clear hr5 ho5 hg5 hb5
              go_wp2_with (at_builtin; refine wpList_append_run rfl _ _ _ rfl rfl rfl HR5.out ?_)
              go_ret
              refine ⟨_, rfl, ?_, HUZ.out.grown HG5.out fun k hk h => by have := HOZ.out.new k hk; omega⟩
              rw [HSPL.out]
              have h9 := HO5.out.far (B' := w.heap.size) fun k hk => by have := HO5.out.new k hk; omega
              simpa using h9
end Go.Proofs.Ytddknmgajacofaa
