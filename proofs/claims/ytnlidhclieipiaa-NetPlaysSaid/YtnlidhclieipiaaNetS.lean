/-
  (*net.Net).Spoil.
-/
import Derived.Test.YtnlidhclieipiaaNetF
import Derived.Laws.BitsAllLaws
namespace Go.Proofs.Ytnlidhclieipiaa
open Go Go.RowKit

theorem xor_u8 (x m : UInt8) : bits .xor .u8 (x.toNat : Int) (m.toNat : Int) = ((x ^^^ m).toNat : Int) := by
  rw [u8_xor_nat _ _ x.toNat_lt m.toNat_lt, UInt8.toNat_xor]

/-- What the function that Spoil hands on sees: the parcel's box, and the boxes of at, mask and bad. -/
structure SpoilAt (w : World) (q b1 b2 b3 : Nat) (p : Pcl) (v : Value) (at_ : Int) (mask : UInt8) : Prop where
  box : Blk w q 28 (p.cells v)
  at1 : Blk w b1 3 #[.int .i64 at_]
  mask1 : Blk w b2 5 #[.int .u8 mask.toNat]
  bad1 : Blk w b3 29 #[.int .i64 1]
  own : w.ownsRow 0 5 1 v p.body.length (bytesV p.body)
  small : p.body.length ≤ 4096

set_option maxHeartbeats 2000000 in
theorem spoil1_bad (q b1 b2 b3 : Nat) (p : Pcl) (v : Value) (at_ : Int) (mask : UInt8) (w : World) (h : SpoilAt w q b1 b2 b3 p v at_ mask) (hb : at_ < 0 ∨ (p.body.length : Int) ≤ at_ ∨ mask = 0) :
    Calls Try.prog 32 #[.pointer (some ⟨q, 0, none⟩), .pointer (some ⟨b1, 0, none⟩), .pointer (some ⟨b2, 0, none⟩), .pointer (some ⟨b3, 0, none⟩)] w fun e w' => e = .returned (.bool true) ∧ Upd Nowhere w w' := by
  obtain ⟨A, ca, rfl⟩ := own_form h.own
  have hsm := h.small
  have c0 := h.box.cell
  unfold Pcl.cells at c0
  have c1 := h.at1.cell
  have c2 := h.mask1.cell
  clear h
  by_cases h0 : at_ < 0
  · have d0 : decide (at_ < 0) = true := by simpa using h0
    go_enter Try.func32, Try.ntmps32
    go_wp2
    go_quiet (fail)
    go_wp2
    go_ret
    exact ⟨rfl, (Upd.refl _ _).drewN _⟩
  · have d0 : decide (at_ < 0) = false := by simpa using h0
    by_cases h1 : (p.body.length : Int) ≤ at_
    · have d1 : decide ((p.body.length : Int) ≤ at_) = true := by simpa using h1
      go_enter Try.func32, Try.ntmps32
      go_wp2
      go_quiet (fail)
      go_wp2
      go_ret
      exact ⟨rfl, (Upd.refl _ _).drewN _⟩
    · have d1 : decide ((p.body.length : Int) ≤ at_) = false := by simpa using h1
      have hm : mask = 0 := by rcases hb with h | h | h <;> first | exact h | omega
      subst hm
      go_enter Try.func32, Try.ntmps32
      go_wp2
      go_quiet (fail)
      go_wp2
      go_ret
      exact ⟨rfl, (Upd.refl _ _).drewN _⟩

set_option maxHeartbeats 2000000 in
theorem spoil1_state (q b1 b2 b3 : Nat) (p : Pcl) (v : Value) (k : Nat) (mask : UInt8) (w : World) (h : SpoilAt w q b1 b2 b3 p v k mask) (hk : k < p.body.length) (hm : mask ≠ 0) (hs : p.spoilt = true) :
    Calls Try.prog 32 #[.pointer (some ⟨q, 0, none⟩), .pointer (some ⟨b1, 0, none⟩), .pointer (some ⟨b2, 0, none⟩), .pointer (some ⟨b3, 0, none⟩)] w fun e w' => e = .returned (.bool true) ∧ Blk w' b3 29 #[.int .i64 161] ∧ Upd (· = b3) w w' := by
  obtain ⟨A, ca, rfl⟩ := own_form h.own
  have hsm := h.small
  have HB := Lib.hid h.bad1
  have c0 := h.box.cell
  unfold Pcl.cells at c0
  rw [hs] at c0
  have c1 := h.at1.cell
  have c2 := h.mask1.cell
  have c3 := h.bad1.cell
  have f3 := h.bad1.frozen
  clear h hs
  have d0 : decide ((k : Int) < 0) = false := by simp
  have d1 : decide ((p.body.length : Int) ≤ (k : Int)) = false := by simp; omega
  have d2 : ((mask.toNat : Int) == 0) = false := by
    simp
    intro h
    exact hm (UInt8.toNat_inj.1 (by simpa using h))
  clear hm
  go_enter Try.func32, Try.ntmps32
  go_wp2
  go_quiet (fail)
  go_wp2
  go_ret
  refine ⟨rfl, ?_, ?_⟩
  · exact (HB.out.drewN _).set_ 0 _
  · exact ((Upd.refl (· = b3) w).drewN _).setCell (fun _ => rfl) _

theorem byte_set (l : List UInt8) (k : Nat) (x : UInt8) : bytesV (l.set k x) = (bytesV l).set k (byteV x) := by simp [bytesV, List.map_set]

/-- A byte of an owned row is written. -/
theorem own_store {w : World} {e : TypeId} {A : Option Addr} {n c : Nat} {xs : List Value} (h : w.ownsRow 0 e 1 (.slice A n c) n xs) {k : Nat} (hk : k < n) (u : Value) :
    ∃ g, A = some ⟨g, 0, none⟩ ∧ w.cell? ⟨g, k, none⟩ = xs[k]? ∧ w.frozen? ⟨g, k, none⟩ = false ∧ (w.setCell ⟨g, k, none⟩ u).ownsRow 0 e 1 (.slice A n c) n (xs.set k u) := by
  obtain ⟨h1, ⟨h2, rfl⟩ | ⟨g, cap, cur, hv, hb, hh, hnc, hcm, hcs, htk⟩⟩ := h
  · omega
  · injection hv with e1 e2 e3
    subst e1 e3
    simp only [Nat.mul_one] at h1 hcs htk
    refine ⟨g, rfl, ?_, ?_, ?_⟩
    · rw [(show Blk w g e cur from hh).cell k, ← htk, List.getElem?_take]
      simp [hk]
    · exact (show Blk w g e cur from hh).frozen k
    · refine ⟨by simpa using h1, .inr ⟨g, c, cur.setIfInBounds k u, rfl, hb, (show Blk w g e cur from hh).set_ k u, hnc, hcm, by simpa using hcs, ?_⟩⟩
      rw [← htk]
      simp [List.take_set]

set_option maxHeartbeats 2000000 in
theorem spoil1_ok (q b1 b2 b3 : Nat) (p : Pcl) (v : Value) (k : Nat) (mask x : UInt8) (w : World) (h : SpoilAt w q b1 b2 b3 p v k mask) (hx : p.body[k]? = some x) (hm : mask ≠ 0) (hs : p.spoilt = false) (hne : q ≠ b3) :
    Calls Try.prog 32 #[.pointer (some ⟨q, 0, none⟩), .pointer (some ⟨b1, 0, none⟩), .pointer (some ⟨b2, 0, none⟩), .pointer (some ⟨b3, 0, none⟩)] w fun e w' => e = .returned (.bool true) ∧
      Blk w' b3 29 #[.int .i64 0] ∧ Blk w' q 28 (Pcl.cells ⟨p.frm, p.dst, p.body.set k (x ^^^ mask), true⟩ v) ∧ w'.ownsRow 0 5 1 v p.body.length (bytesV (p.body.set k (x ^^^ mask))) ∧
      Upd (fun j => j = b3 ∨ j = q ∨ v.ownBlock = some j) w w' := by
  obtain ⟨A, ca, rfl⟩ := own_form h.own
  have hk : k < p.body.length := (List.getElem?_eq_some_iff.1 hx).1
  obtain ⟨g, rfl, hg, hgf, hgo⟩ := own_store h.own hk (byteV (x ^^^ mask))
  rw [bytesV_get, hx] at hg
  simp only [Option.map_some, byteV] at hg
  rw [← byte_set] at hgo
  have n1 : g ≠ q := by rintro rfl; exact own_blk_ne h.own h.box (by decide) rfl
  have n3 : g ≠ b3 := by rintro rfl; exact own_blk_ne h.own h.bad1 (by decide) rfl
  have hsm := h.small
  have HB := Lib.hid h.bad1
  have HQ := Lib.hid h.box
  have c0 := h.box.cell
  unfold Pcl.cells at c0
  rw [hs] at c0
  have f0 := h.box.frozen
  have c1 := h.at1.cell
  have c2 := h.mask1.cell
  have c3 := h.bad1.cell
  have f3 := h.bad1.frozen
  have HX := Lib.hid hx
  have HG := Lib.hid hgo
  have HO := Lib.hid h.own
  clear h hs hx hgo
  have d0 : decide ((k : Int) < 0) = false := by simp
  have d1 : decide ((p.body.length : Int) ≤ (k : Int)) = false := by simp; omega
  have d2 : ((mask.toNat : Int) == 0) = false := by
    simp
    intro h
    exact hm (UInt8.toNat_inj.1 (by simpa using h))
  have hxor := xor_u8 x mask
  clear hm
  go_enter Try.func32, Try.ntmps32
  go_wp2
  go_quiet (fail)
  go_upto_region 1 with (fail)
  refine wp_region_tail 10 (by kernel_rfl) (by kernel_rfl) ?_
  simp only [List.take_succ_cons, List.take_zero, List.drop_succ_cons, List.drop_zero]
  repeat still_step
  refine wpStill_nil ?_
  go_wp2
  go_ret
  rw [← UInt8.toNat_xor]
  have hg2 : ((w.drewN (nq + 1)).setCell ⟨g, k, none⟩ (byteV (x ^^^ mask))).ownsRow 0 5 1 (.slice (some ⟨g, 0, none⟩) p.body.length ca) p.body.length (bytesV (p.body.set k (x ^^^ mask))) := HG.out
  refine ⟨rfl, ?_, ?_, ?_, ?_⟩
  · exact (((HB.out.drewN (nq + 1)).far (Ne.symm n3) _).far (Ne.symm hne) _).set_ 0 _
  · exact (((HQ.out.drewN (nq + 1)).far (Ne.symm n1) _).set_ 3 _).far hne _
  · refine own_upd hg2 (((Upd.refl (fun j => j = q ∨ j = b3) _).setCell (fun _ => .inl rfl) _).setCell (fun _ => .inr rfl) _) ?_
    intro j hj
    have : g = j := by simpa [Value.ownBlock] using hj
    omega
  · have u1 := ((Upd.refl (fun j => j = b3 ∨ j = q ∨ (Value.slice (some ⟨g, 0, none⟩) p.body.length ca).ownBlock = some j) w).drewN (nq + 1)).setCell (p := ⟨g, k, none⟩) (fun _ => Or.inr (Or.inr rfl)) (.int .u8 ((x ^^^ mask).toNat : Int))
    have u2 := u1.setCell (p := ⟨q, 3, none⟩) (fun _ => Or.inr (Or.inl rfl)) (.bool true)
    exact u2.setCell (p := ⟨b3, 0, none⟩) (fun _ => Or.inl rfl) (.int .i64 0)
end Go.Proofs.Ytnlidhclieipiaa
