/-
  trothlaw20.awake: the document's example.
-/
import Derived.Test.YtnlidhclieipiaaNetF
namespace Go.Proofs.Ytnlidhclieipiaa
open Go Go.RowKit

theorem NetP.new (w : World) : NetP ((w.alloc (.chan 256 #[] false 0 0 false)).alloc (.cells #[.chan (some w.heap.size), .int .i64 0] 56)) (w.heap.size + 1) w.heap.size [] 0 := by
  refine ⟨⟨Blk.new' _ _ _ (by simp), 0, 0, ?_⟩, by simp, by simp, List.Pairwise.nil, by simp⟩
  rw [Below.heap_alloc _ _ _ (by simp), heap_alloc_new]
  rfl

/-- A slice of one byte, written out. -/
theorem reads_one (w : World) (b : UInt8) : Reads (w.alloc (.cells #[byteV b] 5)) 1 (.slice (some ⟨w.heap.size, 0, none⟩) 1 1) [b].length (bytesV [b]) := by
  refine ⟨_, 1, rfl, Nat.le_refl _, rfl, fun _ => ⟨_, rfl, by simp, rfl, fun j u hj => ?_⟩⟩
  rcases j with _ | j
  · have hu : byteV b = u := by simpa [bytesV] using hj
    subst hu
    simp [Addr.add]
  · simp [bytesV] at hj

theorem reads_one' {g : Nat} (w : World) (b : UInt8) (hg : g = w.heap.size) : Reads (w.alloc (.cells #[byteV b] 5)) 1 (.slice (some ⟨g, 0, none⟩) 1 1) [b].length (bytesV [b]) := by
  subst hg; exact reads_one w b

theorem len_okP {w : World} {bn c : Nat} {L : Pcls} {lost : Int} (h : NetP w bn c L lost) :
    Calls Try.prog 14 #[.pointer (some ⟨bn, 0, none⟩)] w fun e w' => e = .returned (.int .i64 L.length) ∧ w = w' := by
  obtain ⟨hb, s, r, hc⟩ := h.net
  have := len_ok bn c 256 s r _ false lost w hb hc
  rwa [show (vals L).toArray.size = L.length by simp [vals_length]] at this
theorem lost_okP {w : World} {bn c : Nat} {L : Pcls} {lost : Int} (h : NetP w bn c L lost) :
    Calls Try.prog 15 #[.pointer (some ⟨bn, 0, none⟩)] w fun e w' => e = .returned (.int .i64 lost) ∧ w = w' := lost_ok bn c lost w h.net.1

set_option maxHeartbeats 2000000 in
theorem awake_ok (w : World) : Calls Try.prog 8 #[] w fun e w' => e = .returned (.bool true) ∧ Below w.heap.size w w' := by
  go_enter Try.func8, Try.ntmps8
  go_wp2_with fail
  refine (new_ok _).mono ?_
  rintro e w1 ⟨rfl, hw1⟩
  have hn1 : NetP w1 (w.heap.size + 1) w.heap.size [] 0 := by rw [hw1]; exact NetP.new w
  have hb1 : Below w.heap.size w w1 := by rw [hw1]; exact ((Below.refl _ _).alloc (Nat.le_refl _) _).alloc (by simp) _
  have hs1 := hb1.size
  have HN1 := Lib.hid hn1
  have HB1 := Lib.hid hb1
  clear hn1 hb1 hw1
  go_wp2_with fail
  refine (send_okP (w.heap.size + 1) w.heap.size [] 0 ⟨0, 1, [97], false⟩ _ _ (HN1.out.upd ((Upd.refl Nowhere w1).alloc _) fun _ _ => id) (reads_one w1 97) (by decide) (by decide)).mono ?_
  rintro e w2 ⟨v2, rfl, hn2, -, hu2⟩
  have hb2 := Upd.onto (HB1.out.alloc hs1 _) hu2 (fun k hk => Nat.le_of_eq hk.symm) (by simp; omega)
  have hs2 := hb2.size
  have HN2 := Lib.hid hn2
  have HB2 := Lib.hid hb2
  clear hn2 hu2 hb2 HN1 HB1 hs1
  go_wp2_with fail
  refine (send_okP (w.heap.size + 1) w.heap.size _ 0 ⟨0, 2, [98], false⟩ _ _ (HN2.out.upd ((Upd.refl Nowhere w2).alloc _) fun _ _ => id) (reads_one w2 98) (by decide) (by simp)).mono ?_
  rintro e w3 ⟨v3, rfl, hn3, -, hu3⟩
  have hb3 := Upd.onto (HB2.out.alloc hs2 _) hu3 (fun k hk => Nat.le_of_eq hk.symm) (by simp; omega)
  have hs3 := hb3.size
  have HN3 := Lib.hid hn3
  have HB3 := Lib.hid hb3
  clear hn3 hu3 hb3 HN2 HB2 hs2
  go_wp2_with fail
  refine (twice_ok (w.heap.size + 1) w.heap.size _ 0 w3 0 _ HN3.out rfl (by simp)).mono ?_
  rintro e w4 ⟨v4, rfl, hn4, -, hu4⟩
  have hb4 := Upd.onto HB3.out hu4 (fun k hk => Nat.le_of_eq hk.symm) hs3
  have hs4 := hb4.size
  have HN4 := Lib.hid hn4
  have HB4 := Lib.hid hb4
  clear hn4 hu4 hb4 HN3 HB3 hs3
  go_wp2_with fail
  refine (drop_ok (w.heap.size + 1) w.heap.size _ 0 w4 1 _ HN4.out rfl (by decide) (by decide)).mono ?_
  rintro e w5 ⟨rfl, hn5, hu5⟩
  have hb5 := Upd.onto HB4.out hu5 (fun k hk => by omega) hs4
  have hs5 := hb5.size
  have HN5 := Lib.hid hn5
  have HB5 := Lib.hid hb5
  clear hn5 hu5 hb5 HN4 HB4 hs4
  go_wp2_with fail
  refine (look_ok (w.heap.size + 1) w.heap.size _ _ 1 _ w5 HN5.out rfl).mono ?_
  rintro e w6 ⟨v6, rfl, hn6, ho6, hu6⟩
  have hb6 := Upd.onto HB5.out hu6 (fun k hk => Nat.le_of_eq hk.symm) hs5
  have hs6 := hb6.size
  obtain ⟨A6, k6, hv6⟩ := own_form ho6
  subst hv6
  have HN6 := Lib.hid hn6
  have HB6 := Lib.hid hb6
  have HO6 := Lib.hid ho6
  clear hn6 hu6 hb6 HN5 HB5 hs5 ho6
  unfold Pcl.val Pcl.cells
  go_wp2_with fail
  have hn7 := HN6.out.upd ((Upd.refl Nowhere w6).alloc (.cells #[.int .i64 0, .int .i64 1, .slice A6 1 k6, .bool false] 28)) fun _ _ => id
  have HN7 := Lib.hid hn7
  clear hn7 HN6
  refine (len_okP HN7.out).mono ?_
  rintro e w7 ⟨rfl, rfl⟩
  simp only [List.nil_append, List.cons_append, List.eraseIdx_cons_succ, List.eraseIdx_cons_zero, List.length_cons, List.length_nil]
  go_wp2_with fail
  refine (lost_okP HN7.out).mono ?_
  rintro e w7 ⟨rfl, rfl⟩
  go_wp2_with fail
  refine (same20 0 1 0 1 false false _ _ [97] [97] _ (((Reads.of_own HO6.out).alloc _).alloc _) (reads_one' _ 97 (by simp)) (by decide)).mono ?_
  rintro e w8 ⟨rfl, hu⟩
  have HU := Lib.hid hu
  clear hu
  go_wp2
  go_ret
  exact ⟨ret_bool (by simp [Pcl.same]), Upd.onto ((HB6.out.alloc hs6 _).alloc (by simp; omega) _) HU.out (fun _ h => h.elim) (by simp; omega)⟩
end Go.Proofs.Ytnlidhclieipiaa
