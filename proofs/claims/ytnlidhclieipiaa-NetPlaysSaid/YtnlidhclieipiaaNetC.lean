/-
  (*net.Net).Send.
-/
import Derived.Test.YtnlidhclieipiaaNetB
namespace Go.Proofs.Ytnlidhclieipiaa
open Go Go.RowKit

/-- A net in memory: block bn is the struct, block c the channel with the parcels vs. -/
def NetV (w : World) (bn c : Nat) (vs : List Value) (lost : Int) : Prop :=
  Blk w bn 56 #[.chan (some c), .int .i64 lost] ∧ ∃ s r, w.heap[c]? = some (.chan 256 vs.toArray false s r false)

theorem NetV.ne {w : World} {bn c : Nat} {vs : List Value} {lost : Int} (h : NetV w bn c vs lost) : bn ≠ c := by
  rintro rfl
  obtain ⟨h1, s, r, h2⟩ := h
  unfold Blk at h1
  rw [h1] at h2
  cases h2
theorem NetV.upd {F : Nat → Prop} {w w' : World} {bn c : Nat} {vs : List Value} {lost : Int} (h : NetV w bn c vs lost) (hu : Upd F w w') (h1 : ¬ F bn) (h2 : ¬ F c) : NetV w' bn c vs lost := by
  obtain ⟨hb, s, r, hc⟩ := h
  exact ⟨hb.upd hu h1, s, r, (hu.block c (lt_of_heap hc) h2).trans hc⟩

theorem zero_parcel (w : World) : (zeroValue 28).run Try.prog w = .ok (.agg #[.int .i64 0, .int .i64 0, .slice none 0 0, .bool false]) w := by kernel_rfl

set_option maxHeartbeats 1000000 in
theorem send_room (bn c : Nat) (vs : List Value) (lost : Int) (f t : Int) (s : Bool) (v : Value) (l : List UInt8) (w : World) (hnet : NetV w bn c vs lost) (h : Reads w 1 v l.length (bytesV l)) (hl : l.length ≤ 4096) (hroom : vs.length < 256) :
    Calls Try.prog 10 #[.pointer (some ⟨bn, 0, none⟩), .agg #[.int .i64 f, .int .i64 t, v, .bool s]] w fun e w' => ∃ v', e = .returned (.int .i64 0) ∧
      NetV w' bn c (vs ++ [.agg #[.int .i64 f, .int .i64 t, v', .bool s]]) lost ∧ w'.ownsRow w.heap.size 5 1 v' l.length (bytesV l) ∧ Upd (· = c) w w' := by
  obtain ⟨A, ca, rfl, _⟩ := h.val
  have H := Lib.hid h
  have HN := Lib.hid hnet
  have hb0 := hnet.1.alloc (.cells #[.int .i64 f, .int .i64 t, .slice A l.length ca, .bool s] 28)
  have hcell := hb0.cell
  have hlt := hnet.1.lt
  clear h hnet
  go_enter Try.func10, Try.ntmps10
  go_upto_region 7 with (first
    | (go_at_call 26
       refine (own_ok _ _ _ _ _ _ _ (H.out.alloc _) (bytesV_one _) (by omega)).mono ?_
       rintro e w1 ⟨v', rfl, ho, hu⟩))
  have hu' := ((Upd.refl Nowhere w).alloc _).trans hu fun _ _ => id
  obtain ⟨_, s0, r0, hch⟩ := HN.out.upd hu' id id
  refine wp_region_comm 0 rfl rfl ?_
  simp only [List.take_zero, List.drop_succ_cons, List.drop_zero, Nat.zero_add]
  refine wpList_nil ?_
  simp only [Exit.then]
  refine ⟨_, _, _, _, _, _, run_select1 (c := c) (v := .agg #[.int .i64 f, .int .i64 t, v', .bool s]) rfl rfl rfl (zero_parcel w1), Commd.sel_room hch (by simpa using hroom), ?_⟩
  have HU := Lib.hid hu'
  have HO := Lib.hid ho
  have HC := Lib.hid hch
  clear hu hu' ho hch hb0 hcell
  go_wp2
  go_ret
  refine ⟨v', rfl, ⟨?_, s0 + 1, r0, ?_⟩, ?_, ?_⟩
  · exact (HN.out.upd HU.out id id).1.chan HN.out.ne _ _ _ _ _ _
  · rw [Conc.heap_setChan _ _ _ _ _ _ _ _ (lt_of_heap HC.out)]
  · refine own_upd (own_base HO.out _ fun k hk => ?_) ((Upd.refl (· = c) w1).setChan (fun _ => rfl) _ _ _ _ _ _) fun k hk he => ?_
    · have := (HO.out.lt k hk).1; simp at this; omega
    · subst he
      exact own_chan_ne HO.out HC.out hk
  · exact (HU.out.mono fun _ _ h => h.elim).trans ((Upd.refl (· = c) w1).setChan (fun _ => rfl) _ _ _ _ _ _) fun _ _ h => h

set_option maxHeartbeats 1000000 in
theorem send_full (bn c : Nat) (vs : List Value) (lost : Int) (f t : Int) (s : Bool) (v : Value) (l : List UInt8) (w : World) (hnet : NetV w bn c vs lost) (h : Reads w 1 v l.length (bytesV l)) (hl : l.length ≤ 4096) (hroom : 256 ≤ vs.length)
    (h0 : 0 ≤ lost) (h9 : lost ≤ 9223372036854775806) :
    Calls Try.prog 10 #[.pointer (some ⟨bn, 0, none⟩), .agg #[.int .i64 f, .int .i64 t, v, .bool s]] w fun e w' => e = .returned (.int .i64 162) ∧
      NetV w' bn c vs (lost + 1) ∧ Upd (· = bn) w w' := by
  obtain ⟨A, ca, rfl, _⟩ := h.val
  have H := Lib.hid h
  have HN := Lib.hid hnet
  have hb0 := hnet.1.alloc (.cells #[.int .i64 f, .int .i64 t, .slice A l.length ca, .bool s] 28)
  have hcell := hb0.cell
  have hlt := hnet.1.lt
  clear h hnet
  go_enter Try.func10, Try.ntmps10
  go_upto_region 7 with (first
    | (go_at_call 26
       refine (own_ok _ _ _ _ _ _ _ (H.out.alloc _) (bytesV_one _) (by omega)).mono ?_
       rintro e w1 ⟨v', rfl, ho, hu⟩))
  have hu' := ((Upd.refl Nowhere w).alloc _).trans hu fun _ _ => id
  obtain ⟨hb1, s0, r0, hch⟩ := HN.out.upd hu' id id
  refine wp_region_comm 0 rfl rfl ?_
  simp only [List.take_zero, List.drop_succ_cons, List.drop_zero, Nat.zero_add]
  refine wpList_nil ?_
  simp only [Exit.then]
  refine ⟨_, _, _, _, _, _, run_select1 (c := c) (v := .agg #[.int .i64 f, .int .i64 t, v', .bool s]) rfl rfl rfl (zero_parcel w1), Commd.sel_full hch (by simpa using hroom), ?_⟩
  have HU := Lib.hid hu'
  have HC := Lib.hid hch
  have HB := Lib.hid hb1
  have hcell := hb1.cell
  have hfr := hb1.frozen
  clear hu hu' ho hch hb0 hb1
  go_wp2
  go_ret
  refine ⟨rfl, ⟨?_, s0, r0, ?_⟩, ?_⟩
  · exact HB.out.set_ 1 _
  · rw [Below.heap_setCell _ _ _ _ (Ne.symm HN.out.ne)]
    exact HC.out
  · exact (HU.out.mono (G := (· = bn)) fun _ _ h => h.elim).setCell (fun _ => rfl) _

set_option maxHeartbeats 1000000 in
theorem send_long (bn c : Nat) (vs : List Value) (lost : Int) (f t : Int) (s : Bool) (v : Value) (n : Nat) (xs : List Value) (w : World) (hnet : NetV w bn c vs lost) (h : Reads w 1 v n xs) (hl : 4096 < n) (hm : n ≤ 9223372036854775807) :
    Calls Try.prog 10 #[.pointer (some ⟨bn, 0, none⟩), .agg #[.int .i64 f, .int .i64 t, v, .bool s]] w fun e w' => e = .returned (.int .i64 12) ∧ Upd Nowhere w w' := by
  obtain ⟨A, ca, rfl, _⟩ := h.val
  have hb0 := hnet.1.alloc (.cells #[.int .i64 f, .int .i64 t, .slice A n ca, .bool s] 28)
  have hcell := hb0.cell
  have hlt := hnet.1.lt
  clear h hnet
  go_enter Try.func10, Try.ntmps10
  go_wp2
  go_ret
  exact ⟨rfl, (Upd.refl _ _).alloc _⟩

set_option maxHeartbeats 1000000 in
theorem send_nil (f t : Int) (s : Bool) (A : Option Addr) (n c : Nat) (w : World) :
    Calls Try.prog 10 #[.pointer none, .agg #[.int .i64 f, .int .i64 t, .slice A n c, .bool s]] w fun e w' => e = .returned (.int .i64 2) ∧ Upd Nowhere w w' := by
  go_enter Try.func10, Try.ntmps10
  go_wp2
  go_ret
  exact ⟨rfl, (Upd.refl _ _).alloc _⟩
end Go.Proofs.Ytnlidhclieipiaa
