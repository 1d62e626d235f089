/-
  (*net.Net).round: all parcels go round once.
-/
import Derived.Test.YtnlidhclieipiaaNetC
namespace Go.Proofs.Ytnlidhclieipiaa
open Go Go.RowKit

/-- A parcel's value. -/
def IsPcl (v : Value) : Prop := ∃ a b A n k s, v = .agg #[.int .i64 a, .int .i64 b, .slice A n k, .bool s]

/-- What stays of the one that was handed to the function. -/
def kept (stay : Bool) (cs : Array Value) : List Value := if stay then [.agg cs] else []

/-- The head of round k: who has gone round, and what the function did, if it was called. -/
def RoundRel (bn c : Nat) (vs : List Value) (lost : Int) (i : Nat) (R : Bool → Array Value → World → World → Prop) (w : World) (k : Nat) (wr : World) : Prop :=
  (k ≤ i ∧ Upd (· = c) w wr ∧ NetV wr bn c (vs.drop k ++ vs.take k) lost) ∨
  (i < k ∧ ∃ stay cs w1 w2, Upd (· = c) w w1 ∧ R stay cs w1 w2 ∧ Upd (· = c) w2 wr ∧ NetV wr bn c (vs.drop k ++ (vs.take i ++ (kept stay cs ++ (vs.take k).drop (i + 1)))) lost)

theorem netv_push {w : World} {bn c : Nat} {T : List Value} {s r : Nat} {lost : Int} {v : Value} (hbc : bn ≠ c) (hb : Blk w bn 56 #[.chan (some c), .int .i64 lost]) (hc : w.heap[c]? = some (.chan 256 T.toArray false s r false)) :
    NetV (w.setChan c 256 (T ++ [v]).toArray false (s + 1) r false) bn c (T ++ [v]) lost :=
  ⟨hb.chan hbc _ _ _ _ _ _, s + 1, r, Conc.heap_setChan _ _ _ _ _ _ _ _ (lt_of_heap hc)⟩

theorem round_head {bn c : Nat} {vs : List Value} {lost : Int} {i : Nat} {R : Bool → Array Value → World → World → Prop} {w : World} {k : Nat} {wr : World} (h : RoundRel bn c vs lost i R w k wr) (hk : k < vs.length) (hlen : vs.length ≤ 256) :
    ∃ v T s r, vs[k]? = some v ∧ Blk wr bn 56 #[.chan (some c), .int .i64 lost] ∧ wr.heap[c]? = some (.chan 256 (v :: T).toArray false s r false) ∧ T.length < 256 ∧
      (k ≠ i → ∀ w', Upd (· = c) wr w' → NetV w' bn c (T ++ [v]) lost → RoundRel bn c vs lost i R w (k + 1) w') ∧
      (k = i → Upd (· = c) w wr ∧ ∀ stay cs w1 w2 w', Upd (· = c) w w1 → R stay cs w1 w2 → Upd (· = c) w2 w' → NetV w' bn c (T ++ kept stay cs) lost → RoundRel bn c vs lost i R w (k + 1) w') := by
  have hd : vs.drop k = vs[k] :: vs.drop (k + 1) := List.drop_eq_getElem_cons hk
  have ht : vs.take (k + 1) = vs.take k ++ [vs[k]] := List.take_succ_eq_append_getElem hk
  rcases h with ⟨hki, hu, hb, s, r, hc⟩ | ⟨hik, stay, cs, w1, w2, h1, h2, h3, hb, s, r, hc⟩
  · refine ⟨vs[k], vs.drop (k + 1) ++ vs.take k, s, r, List.getElem?_eq_getElem hk, hb, ?_, ?_, ?_, ?_⟩
    · rw [hc, hd]; rfl
    · simp; omega
    · intro hne w' hu' hn
      refine .inl ⟨by omega, hu.trans hu' fun _ _ h => h, ?_⟩
      rw [ht, ← List.append_assoc]
      exact hn
    · rintro rfl
      refine ⟨hu, fun stay cs w1 w2 w' h1 h2 h3 hn => .inr ⟨by omega, stay, cs, w1, w2, h1, h2, h3, ?_⟩⟩
      have : (vs.take (k + 1)).drop (k + 1) = [] := List.drop_eq_nil_of_le (by simp; omega)
      rw [this, List.append_nil, ← List.append_assoc]
      exact hn
  · refine ⟨vs[k], vs.drop (k + 1) ++ (vs.take i ++ (kept stay cs ++ (vs.take k).drop (i + 1))), s, r, List.getElem?_eq_getElem hk, hb, ?_, ?_, ?_, ?_⟩
    · rw [hc, hd]; rfl
    · have : (kept stay cs).length ≤ 1 := by unfold kept; split <;> simp
      simp; omega
    · intro hne w' hu' hn
      refine .inr ⟨by omega, stay, cs, w1, w2, h1, h2, h3.trans hu' fun _ _ h => h, ?_⟩
      have : (vs.take (k + 1)).drop (i + 1) = (vs.take k).drop (i + 1) ++ [vs[k]] := by rw [ht, List.drop_append_of_le_length (by simp; omega)]
      rw [this]
      simpa using hn
    · omega

set_option maxHeartbeats 2000000 in
theorem round_ok (bn c : Nat) (vs : List Value) (lost : Int) (i : Nat) (f : FuncId) (caps : Array Value) (w : World) (hnet : NetV w bn c vs lost) (hi : i < vs.length) (hlen : vs.length ≤ 256) (hform : ∀ v ∈ vs, IsPcl v)
    (hcf : ∀ args w, (callFunc f args).run Try.prog w = .ok (.enter f args) w)
    (S : Nat → Prop) (hSc : ¬ S c) (hSb : ¬ S bn) (R : Bool → Array Value → World → World → Prop)
    (hdo : ∀ w1 q cs, vs[i]? = some (.agg cs) → Upd (· = c) w w1 → w.heap.size ≤ q → Blk w1 q 28 cs →
      Calls Try.prog f (#[.pointer (some ⟨q, 0, none⟩)] ++ caps) w1 fun e w2 => ∃ stay cs', e = .returned (.bool stay) ∧ Blk w2 q 28 cs' ∧ IsPcl (.agg cs') ∧ Upd (fun k => S k ∨ k = q) w1 w2 ∧ R stay cs' w1 w2) :
    Calls Try.prog 27 #[.pointer (some ⟨bn, 0, none⟩), .int .i64 i, .func (.func f) #[] caps] w fun e w' =>
      ∃ stay cs w1 w2, e = .returned (.int .i64 0) ∧ Upd (· = c) w w1 ∧ R stay cs w1 w2 ∧ Upd (· = c) w2 w' ∧ NetV w' bn c (vs.take i ++ (kept stay cs ++ vs.drop (i + 1))) lost := by
  have HN := Lib.hid hnet
  have HF := Lib.hid hform
  have HD := Lib.hid hdo
  obtain ⟨hb, s0, r0, hch⟩ := hnet
  have hcell := hb.cell
  have hl := run_len_chan w c 256 s0 r0 vs.toArray false hch
  rw [show vs.toArray.size = vs.length by simp] at hl
  clear hform hdo hb hch
  have hge : ¬ (vs.length ≤ i) := by omega
  go_enter Try.func27, Try.ntmps27
  go_wp2
  go_loopw [25] (fun t wr => ∃ k : Nat, k ≤ vs.length ∧ t = .int .i64 k ∧ RoundRel bn c vs lost i R w k wr) (fun t _ => vs.length - (intOf t).toNat)
  case atStart => exact ⟨0, Nat.zero_le _, rfl, .inl ⟨Nat.zero_le _, Upd.refl _ _, by simpa using HN.out⟩⟩
  case round =>
    obtain ⟨k, hk, rfl, hrel⟩ := hrel
    have HR := Lib.hid hrel
    clear hrel
    by_cases hlt : k < vs.length
    · obtain ⟨v, T, s1, r1, hv, hb, hch, hT, hA, hB⟩ := round_head HR.out hlt hlen
      obtain ⟨a, b, A, n, ca, s, rfl⟩ := HF.out v (List.mem_of_getElem? hv)
      have HV := Lib.hid hv
      have HA := Lib.hid hA
      have HB := Lib.hid hB
      have HC := Lib.hid hch
      have hcell := hb.cell
      have HBn := Lib.hid hb
      clear hv hA hB hch hb HR
      go_upto_region 9 with (fail)
      refine wp_region_comm 4 rfl rfl ?_
      simp only [List.take_succ_cons, List.take_zero, List.drop_succ_cons, List.drop_zero, Nat.reduceAdd]
      go_wp2
      refine ⟨_, _, _, _, _, _, run_recv1 (c := c) rfl Try.underlying54 rfl (zero_parcel wr), Commd.recv HC.out (by simp), ?_⟩
      go_upto_region 10 with (fail)
      rw [Conc.size_setChan]
      obtain ⟨wq, hwq⟩ : ∃ wq, wq = (wr.setChan c 256 T.toArray false s1 (r1 + 1) false).alloc (Obj.cells #[.int .i64 a, .int .i64 b, .slice A n ca, .bool s] 28) := ⟨_, rfl⟩
      rw [← hwq]
      have hbc : bn ≠ c := HN.out.ne
      have bq : Blk wq wr.heap.size 28 #[.int .i64 a, .int .i64 b, .slice A n ca, .bool s] := by rw [hwq]; exact Blk.new' _ _ _ (by rw [Conc.size_setChan])
      have bb : Blk wq bn 56 #[.chan (some c), .int .i64 lost] := by rw [hwq]; exact (HBn.out.chan hbc _ _ _ _ _ _).alloc _
      have hcq : wq.heap[c]? = some (.chan 256 T.toArray false s1 (r1 + 1) false) := by
        rw [hwq, Below.heap_alloc _ _ _ (by rw [Conc.size_setChan]; exact lt_of_heap HC.out)]
        exact Conc.heap_setChan _ _ _ _ _ _ _ _ (lt_of_heap HC.out)
      have huq : Upd (· = c) wr wq := by rw [hwq]; exact ((Upd.refl (· = c) wr).setChan (fun _ => rfl) _ _ _ _ _ _).alloc _
      have HBB := Lib.hid bb
      have HBQ := Lib.hid bq
      have HCQ := Lib.hid hcq
      have HUQ := Lib.hid huq
      clear hwq bq bb hcq huq hcell HBn HC
      by_cases hki : k = i
      · subst hki
        have hN : ((k : Int) != (k : Int)) = false := by simp
        obtain ⟨hB1, hB2⟩ := HB.out rfl
        have HB1 := Lib.hid hB1
        have HB2 := Lib.hid hB2
        have hsz : w.heap.size ≤ wr.heap.size := hB1.size
        clear hB1 hB2 HB HA
        have hcell := HBB.out.cell
        have hcellq := HBQ.out.cell
        go_wp2_with fail
        refine (HD.out wq wr.heap.size _ HV.out (HB1.out.trans HUQ.out fun _ _ h => h) hsz HBQ.out).mono ?_
        rintro e w2 ⟨stay, cs', rfl, bq2, ⟨a2, b2, A2, n2, ca2, s2, hpc⟩, hu2, hR⟩
        injection hpc with hpc
        subst hpc
        have hcc : c ≠ wr.heap.size := Nat.ne_of_lt (Nat.lt_of_lt_of_le (lt_of_heap HN.out.2.choose_spec.choose_spec) hsz)
        have hcb : bn ≠ wr.heap.size := Nat.ne_of_lt (Nat.lt_of_lt_of_le HN.out.1.lt hsz)
        have bb2 := HBB.out.upd hu2 (by rintro (h | h); exact hSb h; exact hcb h)
        have hc2 := (hu2.block c (lt_of_heap HCQ.out) (by rintro (h | h); exact hSc h; exact hcc h)).trans HCQ.out
        have HB3 := Lib.hid bb2
        have HC3 := Lib.hid hc2
        have HR3 := Lib.hid hR
        have HU3 := Lib.hid (HB1.out.trans HUQ.out fun _ _ h => h)
        have hcell := bb2.cell
        have hcellq := bq2.cell
        clear hc2 hR hu2 bb2 bq2 HBB HBQ HCQ HUQ HV HD
        cases stay
        · go_wp2
          go_roundw
          case rel => exact ⟨k + 1, by omega, by go_num, HB2.out false _ wq w2 _ HU3.out HR3.out (Upd.refl _ _) ⟨HB3.out, _, _, by simpa [kept] using HC3.out⟩⟩
          case measure => simp [intOf]; omega
        · go_upto_region 11 with (fail)
          refine wp_region_orders' [[0, 1, 2, 3, 4, 5], [0, 1, 2, 4, 3, 5], [0, 1, 4, 2, 3, 5], [0, 4, 1, 2, 3, 5], [4, 0, 1, 2, 3, 5]] (by kernel_rfl) (by kernel_rfl) ?_
          simp only [List.forall_mem_cons]
          refine ⟨OpsWp.last_comm [0, 1, 2, 3, 4] 5 (by simp) rfl rfl ?_, OpsWp.last_comm [0, 1, 2, 4, 3] 5 (by simp) rfl rfl ?_, OpsWp.last_comm [0, 1, 4, 2, 3] 5 (by simp) rfl rfl ?_, OpsWp.last_comm [0, 4, 1, 2, 3] 5 (by simp) rfl rfl ?_, OpsWp.last_comm [4, 0, 1, 2, 3] 5 (by simp) rfl rfl ?_, fun _ h => by cases h⟩
          all_goals
            simp only [List.filterMap_cons, List.filterMap_nil, List.getElem?_toArray, List.getElem?_cons_zero, List.getElem?_cons_succ]
            go_wp2
            refine ⟨_, _, _, _, _, _, run_send1 (c := c) (v := .agg #[.int .i64 a2, .int .i64 b2, .slice A2 n2 ca2, .bool s2]) rfl rfl rfl, Commd.send (w₁ := w2.drew) HC3.out (by simpa using hT), ?_⟩
            go_wp2
            go_roundw
            case rel => exact ⟨k + 1, by omega, by go_num, HB2.out true _ wq w2 _ HU3.out HR3.out ((Upd.refl (· = c) w2).drew.setChan (fun _ => rfl) _ _ _ _ _ _) (by simpa [kept] using netv_push (v := .agg #[.int .i64 a2, .int .i64 b2, .slice A2 n2 ca2, .bool s2]) hbc HB3.out.drew HC3.out)⟩
            case measure => simp [intOf]; omega
      · have hN : ((k : Int) != (i : Int)) = true := by simp; omega
        have HKI := Lib.hid hki
        clear hki
        have hcell := HBB.out.cell
        have hcellq := HBQ.out.cell
        go_upto_region 11 with (fail)
        refine wp_region_orders' [[0, 1, 2, 3, 4, 5], [0, 1, 2, 4, 3, 5], [0, 1, 4, 2, 3, 5], [0, 4, 1, 2, 3, 5], [4, 0, 1, 2, 3, 5]] (by kernel_rfl) (by kernel_rfl) ?_
        simp only [List.forall_mem_cons]
        refine ⟨OpsWp.last_comm [0, 1, 2, 3, 4] 5 (by simp) rfl rfl ?_, OpsWp.last_comm [0, 1, 2, 4, 3] 5 (by simp) rfl rfl ?_, OpsWp.last_comm [0, 1, 4, 2, 3] 5 (by simp) rfl rfl ?_, OpsWp.last_comm [0, 4, 1, 2, 3] 5 (by simp) rfl rfl ?_, OpsWp.last_comm [4, 0, 1, 2, 3] 5 (by simp) rfl rfl ?_, fun _ h => by cases h⟩
        all_goals
          simp only [List.filterMap_cons, List.filterMap_nil, List.getElem?_toArray, List.getElem?_cons_zero, List.getElem?_cons_succ]
          go_wp2
          refine ⟨_, _, _, _, _, _, run_send1 (c := c) (v := .agg #[.int .i64 a, .int .i64 b, .slice A n ca, .bool s]) rfl rfl rfl, Commd.send (w₁ := wq.drew) HCQ.out (by simpa using hT), ?_⟩
          go_wp2
          go_roundw
          case rel => exact ⟨k + 1, by omega, by go_num, HA.out HKI.out _ ((HUQ.out.drew).setChan (fun _ => rfl) _ _ _ _ _ _) (netv_push hbc HBB.out.drew HCQ.out)⟩
          case measure => simp [intOf]; omega
    · have HK := Lib.hid (show k = vs.length by omega)
      go_wp2
      go_ret
      have hr := HR.out
      rw [HK.out] at hr
      rcases hr with ⟨hle, _⟩ | ⟨_, stay, cs, w1, w2, h1, h2, h3, h4⟩
      · omega
      · exact ⟨stay, cs, w1, w2, rfl, h1, h2, h3, by simpa using h4⟩
end Go.Proofs.Ytnlidhclieipiaa
