/-
  (*net.Net).Take, Look, Drop, Twice where there is no such parcel, or no net; Drop and Twice; Send told by parcels.
-/
import Derived.Test.YtnlidhclieipiaaNetE
namespace Go.Proofs.Ytnlidhclieipiaa
open Go Go.RowKit

theorem send_okP (bn c : Nat) (L : Pcls) (lost : Int) (p : Pcl) (v : Value) (w : World) (hnet : NetP w bn c L lost) (h : Reads w 1 v p.body.length (bytesV p.body)) (hl : p.body.length ≤ 4096) (hroom : L.length < 256) :
    Calls Try.prog 10 #[.pointer (some ⟨bn, 0, none⟩), p.val v] w fun e w' => ∃ v', e = .returned (.int .i64 0) ∧
      NetP w' bn c (L ++ [(p, v')]) lost ∧ (∀ k, v'.ownBlock = some k → w.heap.size ≤ k) ∧ Upd (· = c) w w' := by
  refine (send_room bn c (vals L) lost p.frm p.dst p.spoilt v p.body w hnet.net h hl (by rw [vals_length]; exact hroom)).mono ?_
  rintro e w' ⟨v', rfl, hn, ho, hu⟩
  refine ⟨v', rfl, ⟨?_, by simp; omega, ?_, ?_, ?_⟩, fun k hk => (ho.lt k hk).1, hu⟩
  · simpa [vals, Pcl.val, Pcl.cells] using hn
  · intro x hx
    rcases List.mem_append.1 hx with hx | hx
    · exact own_upd (hnet.own x hx) hu fun k hk he => by subst he; exact hnet.chan_ne hx hk
    · simp at hx; subst hx
      exact own_base ho 0 fun _ _ => Nat.zero_le _
  · rw [List.pairwise_append]
    refine ⟨hnet.apart, List.pairwise_singleton _ _, ?_⟩
    intro x hx y hy k hk he
    simp at hy; subst hy
    have h1 := own_lt (hnet.own x hx) hk
    have h2 := (ho.lt k he).1
    omega
  · intro x hx
    rcases List.mem_append.1 hx with hx | hx
    · exact hnet.small x hx
    · simp at hx; subst hx; exact hl

theorem send_fullP (bn c : Nat) (L : Pcls) (lost : Int) (p : Pcl) (v : Value) (w : World) (hnet : NetP w bn c L lost) (h : Reads w 1 v p.body.length (bytesV p.body)) (hl : p.body.length ≤ 4096) (hroom : L.length = 256) (h0 : 0 ≤ lost) (h9 : lost ≤ 9223372036854775806) :
    Calls Try.prog 10 #[.pointer (some ⟨bn, 0, none⟩), p.val v] w fun e w' => e = .returned (.int .i64 162) ∧
      NetP w' bn c L (lost + 1) ∧ Upd (· = bn) w w' := by
  refine (send_full bn c (vals L) lost p.frm p.dst p.spoilt v p.body w hnet.net h hl (by rw [vals_length]; omega) h0 h9).mono ?_
  rintro e w' ⟨rfl, hn, hu⟩
  exact ⟨rfl, ⟨hn, hnet.len, fun x hx => own_upd (hnet.own x hx) hu fun k hk he => by subst he; exact hnet.blk_ne hx hk, hnet.apart, hnet.small⟩, hu⟩

theorem NetP.lostTo {w : World} {bn c : Nat} {L : Pcls} {lost : Int} (h : NetP w bn c L lost) (n : Int) : NetP (w.setCell ⟨bn, 1, none⟩ (.int .i64 n)) bn c L n := by
  have hu : Upd (· = bn) w (w.setCell ⟨bn, 1, none⟩ (.int .i64 n)) := (Upd.refl (· = bn) w).setCell (fun _ => rfl) _
  obtain ⟨hb, s, r, hc⟩ := h.net
  exact ⟨⟨hb.set_ 1 _, s, r, (hu.block c (lt_of_heap hc) (Ne.symm h.net.ne)).trans hc⟩, h.len, fun x hx => own_upd (h.own x hx) hu fun k hk he => by subst he; exact h.blk_ne hx hk, h.apart, h.small⟩

section
variable (bn c : Nat) (L : Pcls) (lost : Int) (w : World)
set_option maxHeartbeats 1000000 in
theorem take_bad (i : Int) (hnet : NetP w bn c L lost) (hi : i < 0 ∨ (L.length : Int) ≤ i) :
    Calls Try.prog 12 #[.pointer (some ⟨bn, 0, none⟩), .int .i64 i] w fun e w' => e = .returned (.tuple #[.agg zeroPcl, .int .i64 1]) ∧ Upd Nowhere w w' := by
  have hnA : NetP (w.alloc (.cells zeroPcl 28)) bn c L lost := hnet.upd ((Upd.refl Nowhere w).alloc _) fun _ _ => id
  have HN := Lib.hid (round_bad bn c (vals L) lost i (.func (.func 28) #[] #[.pointer (some ⟨w.heap.size, 0, none⟩)]) _ hnA.net (by rw [vals_length]; exact hi))
  unfold zeroPcl at HN
  clear hi hnA hnet
  go_enter Try.func12, Try.ntmps12
  go_wp2_with fail
  refine HN.out.mono ?_
  rintro e w1 ⟨rfl, rfl⟩
  go_wp2
  refine bodyPost_ret (v := .tuple #[.agg #[.int .i64 0, .int .i64 0, .slice none 0 0, .bool false], .int .i64 1]) (by simp [results, Try.results12, go_sem]) rfl ⟨rfl, ?_⟩
  exact (Upd.refl _ _).alloc _
set_option maxHeartbeats 1000000 in
theorem look_bad (i : Int) (hnet : NetP w bn c L lost) (hi : i < 0 ∨ (L.length : Int) ≤ i) :
    Calls Try.prog 18 #[.pointer (some ⟨bn, 0, none⟩), .int .i64 i] w fun e w' => e = .returned (.tuple #[.agg zeroPcl, .int .i64 1]) ∧ Upd Nowhere w w' := by
  have hnA : NetP (w.alloc (.cells zeroPcl 28)) bn c L lost := hnet.upd ((Upd.refl Nowhere w).alloc _) fun _ _ => id
  have HN := Lib.hid (round_bad bn c (vals L) lost i (.func (.func 30) #[] #[.pointer (some ⟨w.heap.size, 0, none⟩)]) _ hnA.net (by rw [vals_length]; exact hi))
  unfold zeroPcl at HN
  clear hi hnA hnet
  go_enter Try.func18, Try.ntmps18
  go_wp2_with fail
  refine HN.out.mono ?_
  rintro e w1 ⟨rfl, rfl⟩
  go_wp2
  refine bodyPost_ret (v := .tuple #[.agg #[.int .i64 0, .int .i64 0, .slice none 0 0, .bool false], .int .i64 1]) (by simp [results, Try.results18, go_sem]) rfl ⟨rfl, ?_⟩
  exact (Upd.refl _ _).alloc _
set_option maxHeartbeats 1000000 in
theorem take_nil (i : Int) :
    Calls Try.prog 12 #[.pointer none, .int .i64 i] w fun e w' => e = .returned (.tuple #[.agg zeroPcl, .int .i64 2]) ∧ Upd Nowhere w w' := by
  go_enter Try.func12, Try.ntmps12
  go_wp2_with fail
  refine (round_nil _ _ _).mono ?_
  rintro e w1 ⟨rfl, rfl⟩
  go_wp2
  refine bodyPost_ret (v := .tuple #[.agg #[.int .i64 0, .int .i64 0, .slice none 0 0, .bool false], .int .i64 2]) (by simp [results, Try.results12, go_sem]) rfl ⟨rfl, ?_⟩
  exact (Upd.refl _ _).alloc _
set_option maxHeartbeats 1000000 in
theorem look_nil (i : Int) :
    Calls Try.prog 18 #[.pointer none, .int .i64 i] w fun e w' => e = .returned (.tuple #[.agg zeroPcl, .int .i64 2]) ∧ Upd Nowhere w w' := by
  go_enter Try.func18, Try.ntmps18
  go_wp2_with fail
  refine (round_nil _ _ _).mono ?_
  rintro e w1 ⟨rfl, rfl⟩
  go_wp2
  refine bodyPost_ret (v := .tuple #[.agg #[.int .i64 0, .int .i64 0, .slice none 0 0, .bool false], .int .i64 2]) (by simp [results, Try.results18, go_sem]) rfl ⟨rfl, ?_⟩
  exact (Upd.refl _ _).alloc _

set_option maxHeartbeats 1000000 in
theorem drop_nil (i : Int) : Calls Try.prog 21 #[.pointer none, .int .i64 i] w fun e w' => e = .returned (.int .i64 2) ∧ Upd Nowhere w w' := by
  go_enter Try.func21, Try.ntmps21
  go_wp2_with fail
  refine (take_nil _ _).mono ?_
  rintro e w1 ⟨rfl, hu⟩
  unfold zeroPcl
  go_wp2
  go_ret
  exact ⟨rfl, hu.alloc _⟩
set_option maxHeartbeats 1000000 in
theorem twice_nil (i : Int) : Calls Try.prog 16 #[.pointer none, .int .i64 i] w fun e w' => e = .returned (.int .i64 2) ∧ Upd Nowhere w w' := by
  go_enter Try.func16, Try.ntmps16
  go_wp2_with fail
  refine (look_nil _ _).mono ?_
  rintro e w1 ⟨rfl, hu⟩
  unfold zeroPcl
  go_wp2
  go_ret
  exact ⟨rfl, hu.alloc _⟩
set_option maxHeartbeats 1000000 in
theorem drop_bad (i : Int) (hnet : NetP w bn c L lost) (hi : i < 0 ∨ (L.length : Int) ≤ i) : Calls Try.prog 21 #[.pointer (some ⟨bn, 0, none⟩), .int .i64 i] w fun e w' => e = .returned (.int .i64 1) ∧ Upd Nowhere w w' := by
  have HT := Lib.hid (take_bad bn c L lost w i hnet hi)
  clear hi hnet
  go_enter Try.func21, Try.ntmps21
  go_wp2_with fail
  refine HT.out.mono ?_
  rintro e w1 ⟨rfl, hu⟩
  unfold zeroPcl
  go_wp2
  go_ret
  exact ⟨rfl, hu.alloc _⟩
set_option maxHeartbeats 1000000 in
theorem twice_bad (i : Int) (hnet : NetP w bn c L lost) (hi : i < 0 ∨ (L.length : Int) ≤ i) : Calls Try.prog 16 #[.pointer (some ⟨bn, 0, none⟩), .int .i64 i] w fun e w' => e = .returned (.int .i64 1) ∧ Upd Nowhere w w' := by
  have HT := Lib.hid (look_bad bn c L lost w i hnet hi)
  clear hi hnet
  go_enter Try.func16, Try.ntmps16
  go_wp2_with fail
  refine HT.out.mono ?_
  rintro e w1 ⟨rfl, hu⟩
  unfold zeroPcl
  go_wp2
  go_ret
  exact ⟨rfl, hu.alloc _⟩
set_option maxHeartbeats 1000000 in
theorem drop_ok (i : Nat) (x : Pcl × Value) (hnet : NetP w bn c L lost) (hx : L[i]? = some x) (h0 : 0 ≤ lost) (h9 : lost ≤ 9223372036854775806) :
    Calls Try.prog 21 #[.pointer (some ⟨bn, 0, none⟩), .int .i64 i] w fun e w' => e = .returned (.int .i64 0) ∧ NetP w' bn c (L.eraseIdx i) (lost + 1) ∧ Upd (fun k => k = c ∨ k = bn) w w' := by
  have HT := Lib.hid (take_ok bn c L lost i x w hnet hx)
  have hbn := hnet.lt (.inl rfl)
  clear hx hnet
  go_enter Try.func21, Try.ntmps21
  go_wp2_with fail
  refine HT.out.mono ?_
  rintro e w1 ⟨rfl, hn, ho, hu⟩
  obtain ⟨A, k, hv⟩ := own_form ho
  unfold Pcl.val Pcl.cells
  rw [hv]
  have hsz := hu.size
  have hn2 := hn.upd ((Upd.refl Nowhere w1).alloc (.cells #[.int .i64 x.1.frm, .int .i64 x.1.dst, .slice A x.1.body.length k, .bool x.1.spoilt] 28)) fun _ _ => id
  have hcell := hn2.net.1.cell
  have hfr := hn2.net.1.frozen
  have HN := Lib.hid hn2
  have HU := Lib.hid hu
  clear hn ho hu hv hn2 HT
  go_wp2
  go_ret
  exact ⟨rfl, HN.out.lostTo _, ((HU.out.mono fun _ _ h => .inl h).alloc _).setCell (fun _ => .inr rfl) _⟩
set_option maxHeartbeats 1000000 in
theorem twice_ok (i : Nat) (x : Pcl × Value) (hnet : NetP w bn c L lost) (hx : L[i]? = some x) (hroom : L.length < 256) :
    Calls Try.prog 16 #[.pointer (some ⟨bn, 0, none⟩), .int .i64 i] w fun e w' => ∃ v', e = .returned (.int .i64 0) ∧ NetP w' bn c (L ++ [(x.1, v')]) lost ∧ (∀ k, v'.ownBlock = some k → w.heap.size ≤ k) ∧ Upd (· = c) w w' := by
  have HT := Lib.hid (look_ok bn c L lost i x w hnet hx)
  have hbn := hnet.lt (.inl rfl)
  have hsm := hnet.small x (List.mem_of_getElem? hx)
  clear hx hnet
  go_enter Try.func16, Try.ntmps16
  go_wp2_with fail
  refine HT.out.mono ?_
  rintro e w1 ⟨v, rfl, hn, ho, hu⟩
  obtain ⟨A, k, hv⟩ := own_form ho
  subst hv
  have hS := send_okP bn c L lost x.1 _ _ (hn.upd ((Upd.refl Nowhere w1).alloc (.cells #[.int .i64 x.1.frm, .int .i64 x.1.dst, .slice A x.1.body.length k, .bool x.1.spoilt] 28)) fun _ _ => id) ((Reads.of_own ho).alloc _) hsm hroom
  have hsz := hu.size
  have HS := Lib.hid hS
  have HU := Lib.hid hu
  unfold Pcl.val Pcl.cells at HS ⊢
  clear hS hn ho hu HT
  go_wp2_with fail
  refine HS.out.mono ?_
  rintro e w2 ⟨v', rfl, hn, hk, hu⟩
  have HN := Lib.hid hn
  have HK := Lib.hid hk
  have HU2 := Lib.hid hu
  clear hn hk hu HS
  go_wp2
  go_ret
  refine ⟨v', rfl, HN.out, fun k hk => ?_, (HU.out.alloc _).trans HU2.out fun _ _ h => h⟩
  have := HK.out k hk
  simp at this
  omega
set_option maxHeartbeats 1000000 in
theorem twice_full (i : Nat) (x : Pcl × Value) (hnet : NetP w bn c L lost) (hx : L[i]? = some x) (hroom : L.length = 256) (h0 : 0 ≤ lost) (h9 : lost ≤ 9223372036854775806) :
    Calls Try.prog 16 #[.pointer (some ⟨bn, 0, none⟩), .int .i64 i] w fun e w' => e = .returned (.int .i64 162) ∧ NetP w' bn c L (lost + 1) ∧ Upd (fun k => k = c ∨ k = bn) w w' := by
  have HT := Lib.hid (look_ok bn c L lost i x w hnet hx)
  have hbn := hnet.lt (.inl rfl)
  have hsm := hnet.small x (List.mem_of_getElem? hx)
  have HR := Lib.hid hroom
  clear hx hnet hroom
  go_enter Try.func16, Try.ntmps16
  go_wp2_with fail
  refine HT.out.mono ?_
  rintro e w1 ⟨v, rfl, hn, ho, hu⟩
  obtain ⟨A, k, hv⟩ := own_form ho
  subst hv
  have hS := send_fullP bn c L lost x.1 _ _ (hn.upd ((Upd.refl Nowhere w1).alloc (.cells #[.int .i64 x.1.frm, .int .i64 x.1.dst, .slice A x.1.body.length k, .bool x.1.spoilt] 28)) fun _ _ => id) ((Reads.of_own ho).alloc _) hsm HR.out h0 h9
  have hsz := hu.size
  have HS := Lib.hid hS
  have HU := Lib.hid hu
  unfold Pcl.val Pcl.cells at HS ⊢
  clear hS hn ho hu HT
  go_wp2_with fail
  refine HS.out.mono ?_
  rintro e w2 ⟨rfl, hn, hu⟩
  have HN := Lib.hid hn
  have HU2 := Lib.hid hu
  clear hn hu HS
  go_wp2
  go_ret
  exact ⟨rfl, HN.out, ((HU.out.mono fun _ _ h => .inl h).alloc _).trans HU2.out fun _ _ h => .inr h⟩
end
end Go.Proofs.Ytnlidhclieipiaa
