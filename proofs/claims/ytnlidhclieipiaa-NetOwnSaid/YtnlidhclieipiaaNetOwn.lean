/-
  The walk of NetOwn.
-/
import Derived.Test.YtnlidhclieipiaaNetG
import Derived.Test.YtnlidhclieipiaaNetT
import Derived.Test.YtnlidhclieipiaaOpenP
namespace Go.Proofs.Ytnlidhclieipiaa
open Go Go.RowKit

set_option maxHeartbeats 2000000 in
set_option maxRecDepth 100000 in
theorem netOwn_bad (p : Pcl) (v : Value) (at_ : Int) (w : World) (h : Reads w 1 v p.body.length (bytesV p.body)) (hm : p.body.length ≤ 9223372036854775807) (hb : 500 < p.body.length ∨ p.body.length = 0 ∨ p.spoilt = true) :
    Calls Try.prog 6 #[.agg #[.int .i64 p.frm, .int .i64 p.dst, v, .bool p.spoilt], .int .i64 at_] w fun e w' => e = .returned (.bool true) ∧ Below w.heap.size w w' := by
  obtain ⟨A, c, rfl, _⟩ := h.val
  clear h
  by_cases h1 : 500 < p.body.length
  · go_enter Try.func6, Try.ntmps6
    go_wp2_with fail
    refine (awake_ok _).mono ?_
    rintro e w1 ⟨rfl, hb1⟩
    go_wp2
    go_ret
    exact ⟨rfl, ((Below.refl _ _).alloc (Nat.le_refl _) _).trans (hb1.mono (by simp))⟩
  · have d1 : decide (500 < (p.body.length : Int)) = false := by simp; omega
    by_cases h2 : p.body.length = 0
    · have d2 : ((p.body.length : Int) == 0) = true := by simpa using h2
      have H2 := Lib.hid h2
      clear h2 hb
      go_enter Try.func6, Try.ntmps6
      go_wp2_with fail
      refine (awake_ok _).mono ?_
      rintro e w1 ⟨rfl, hb1⟩
      go_wp2
      go_ret
      exact ⟨rfl, ((Below.refl _ _).alloc (Nat.le_refl _) _).trans (hb1.mono (by simp))⟩
    · have d2 : ((p.body.length : Int) == 0) = false := by simpa using h2
      have h3 : p.spoilt = true := by rcases hb with h | h | h <;> first | exact h | omega
      rw [h3]
      clear hb h3
      go_enter Try.func6, Try.ntmps6
      go_wp2_with fail
      refine (awake_ok _).mono ?_
      rintro e w1 ⟨rfl, hb1⟩
      go_wp2
      go_ret
      exact ⟨rfl, ((Below.refl _ _).alloc (Nat.le_refl _) _).trans (hb1.mono (by simp))⟩

theorem new_okP (w : World) : Calls Try.prog 9 #[] w fun e w' => ∃ bn c, e = .returned (.pointer (some ⟨bn, 0, none⟩)) ∧ NetP w' bn c [] 0 ∧ w.heap.size ≤ bn ∧ w.heap.size ≤ c ∧ Upd Nowhere w w' := by
  refine (new_ok w).mono ?_
  rintro e w' ⟨rfl, rfl⟩
  exact ⟨_, _, rfl, NetP.new w, by omega, by omega, ((Upd.refl _ _).alloc _).alloc _⟩

theorem index_of (at_ : Int) (n : Nat) (h : 0 < n) (h1 : n ≤ 500) : ∃ k : Nat, k < n ∧ wrap64 ((IntKind.u64.wrap at_).tmod (n : Int)) = k := by
  have h0 : 0 ≤ IntKind.u64.wrap at_ := by simp [IntKind.wrap, IntKind.signed, IntKind.bits]; omega
  rw [Int.tmod_eq_emod_of_nonneg h0]
  have h2 := Int.emod_nonneg (IntKind.u64.wrap at_) (by omega : (n : Int) ≠ 0)
  have h3 := Int.emod_lt_of_pos (IntKind.u64.wrap at_) (by omega : 0 < (n : Int))
  refine ⟨(IntKind.u64.wrap at_ % (n : Int)).toNat, by omega, ?_⟩
  rw [IntWalk.wrap64_in _ ⟨by omega, by omega⟩]
  omega

/-- The slice's own block, where it has a byte. -/
theorem own_at {w : World} {base : Nat} {e : TypeId} {A : Option Addr} {n c : Nat} {l : List UInt8} (h : w.ownsRow base e 1 (.slice A n c) n (bytesV l)) {k : Nat} (hk : k < n) :
    ∃ g x, A = some ⟨g, 0, none⟩ ∧ base ≤ g ∧ g < w.heap.size ∧ w.cell? ⟨g, k, none⟩ = some (.int .u8 (UInt8.toNat x)) ∧ w.frozen? ⟨g, k, none⟩ = false := by
  obtain ⟨g, rfl, h1, h2, _⟩ := own_store (own_base h 0 fun _ _ => Nat.zero_le _) hk (.bool true)
  have hl : k < l.length := by have := h.1; rw [bytesV_length] at this; omega
  rw [bytesV_get, List.getElem?_eq_getElem hl] at h1
  obtain ⟨h3, h4⟩ := h.lt g rfl
  exact ⟨g, _, rfl, h3, h4, h1, h2⟩

set_option maxHeartbeats 4000000 in
set_option maxRecDepth 100000 in
theorem netOwn_walk (f t : Int) (l : List UInt8) (v : Value) (at_ : Int) (w : World) (h : Reads w 1 v l.length (bytesV l)) (h1 : l.length ≤ 500) (h2 : 0 < l.length) :
    Calls Try.prog 6 #[.agg #[.int .i64 f, .int .i64 t, v, .bool false], .int .i64 at_] w fun e w' => e = .returned (.bool true) ∧ Below w.heap.size w w' := by
  obtain ⟨A, c, rfl, _⟩ := h.val
  have H := Lib.hid h
  clear h
  have d1 : decide (500 < (l.length : Int)) = false := by simp; omega
  have d2 : ((l.length : Int) == 0) = false := beq_eq_false_iff_ne.2 (by omega)
  go_enter Try.func6, Try.ntmps6
  go_wp2_with fail
  obtain ⟨k, hk, ek⟩ := index_of at_ l.length h2 h1
  rw [ek]
  clear ek
  refine (new_okP _).mono ?_
  rintro e w1 ⟨bn, c', rfl, hn1, hbn, hc, hu1⟩
  simp only [World.size_alloc] at hbn hc
  have hp1 := (Blk.new w 28 #[.int .i64 f, .int .i64 t, .slice A l.length c, .bool false]).upd hu1 id
  have HP1 := Lib.hid hp1
  have hb1 := Upd.onto ((Below.refl w.heap.size w).alloc (Nat.le_refl _) _) hu1 (fun _ h => h.elim) (by simp)
  have HB1 := Lib.hid hb1
  have HN1 := Lib.hid hn1
  have hs1 := hb1.size
  have hl1 := hp1.lt
  have cp := hp1.cell
  have hlb := hn1.lt (.inl rfl)
  have hlc := hn1.lt (.inr (.inl rfl))
  clear hu1 hp1 hb1 hn1
  -- x := Copy(p)
  go_wp2_with fail
  refine (copy_ok _ _ _ _ _ _ _ (H.out.below HB1.out) (bytesV_one _) (by omega)).mono ?_
  rintro e w2 ⟨v2, rfl, ho2, hu2⟩
  obtain ⟨A2, c2, hv2⟩ := own_form ho2
  subst hv2
  obtain ⟨g2, x2, rfl, hg2, hg2', _, _⟩ := own_at ho2 hk
  have HP2 := Lib.hid (HP1.out.upd hu2 id)
  have HB2 := Lib.hid (Upd.onto HB1.out hu2 (fun _ h => h.elim) hs1)
  have HN2 := Lib.hid (HN1.out.upd hu2 fun _ _ => id)
  have HO2 := Lib.hid ho2
  have hs2 := hu2.size
  clear ho2 hu2 HP1 HB1 HN1 cp
  -- n.Send(x)
  go_wp2_with fail
  refine (send_okP bn c' [] 0 ⟨f, t, l, false⟩ _ _ (HN2.out.upd ((Upd.refl Nowhere w2).alloc _) fun _ _ => id) ((Reads.of_own HO2.out).alloc _) (by show l.length ≤ 4096; omega) (by decide)).mono ?_
  rintro e w3 ⟨v3, rfl, hn3, hv3, hu3⟩
  simp only [World.size_alloc] at hv3
  have hs3 := hu3.size
  simp only [World.size_alloc] at hs3
  have ho3 := own_upd (HO2.out.alloc (.cells #[.int .i64 f, .int .i64 t, .slice (some ⟨g2, 0, none⟩) l.length c2, .bool false] 28)) hu3 (fun j hj he => by
    have : g2 = j := by simpa [Value.ownBlock] using hj
    omega)
  obtain ⟨g2', x3, e3, _, _, hg3, hf3⟩ := own_at ho3 hk
  obtain rfl : g2 = g2' := by simpa using e3
  have hx3 := (Blk.new w2 28 #[.int .i64 f, .int .i64 t, .slice (some ⟨g2, 0, none⟩) l.length c2, .bool false]).upd hu3 (by omega)
  have HX3 := Lib.hid hx3
  have cx := hx3.cell
  have HP3 := Lib.hid ((HP2.out.alloc _).upd hu3 (by omega))
  have HB3 := Lib.hid (Upd.onto (HB2.out.alloc (by omega) _) hu3 (fun k hk => by omega) (by simp; omega))
  have HN3 := Lib.hid hn3
  have hv3' : ∀ j, v3.ownBlock = some j → j < w3.heap.size := fun j hj => own_lt (hn3.own (⟨f, t, l, false⟩, v3) (by simp)) hj
  have HV3 := Lib.hid hv3
  have HV3' := Lib.hid hv3'
  clear hv3 hv3' hn3 hu3 HP2 HB2 HN2 HO2 ho3 e3 hx3
  -- x.Body[at] ^= 1; y := n.Look(0)
  go_wp2_with fail
  generalize bits BinOp.xor IntKind.u8 (x3.toNat : Int) 1 = u3
  have hu4 : Upd (· = g2) w3 (w3.setCell ⟨g2, k, none⟩ (.int .u8 u3)) := (Upd.refl (· = g2) w3).setCell (fun _ => rfl) _
  have hn4 := HN3.out.upd hu4 (by
    intro j hj he
    subst he
    rcases hj with h | h | ⟨y, hy, h⟩
    · omega
    · omega
    · simp only [List.nil_append, List.mem_singleton] at hy
      subst hy
      have := HV3.out j h
      omega)
  have hp4 := HP3.out.upd hu4 (by omega)
  have hb4 := Upd.onto HB3.out hu4 (fun _ h => by omega) (by omega)
  refine (look_ok bn c' _ 0 0 (⟨f, t, l, false⟩, v3) _ hn4 rfl).mono ?_
  rintro e w5 ⟨v5, rfl, hn5, ho5, hu5⟩
  obtain ⟨A5, c5, hv5⟩ := own_form ho5
  subst hv5
  have hs5 := hu5.size
  have hs45 : (w3.setCell ⟨g2, k, none⟩ (.int .u8 u3)).heap.size = w3.heap.size := by simp [World.setCell]
  rw [hs45] at hs5 ho5
  have hp5 := hp4.upd hu5 (by omega)
  have HP5 := Lib.hid hp5
  have cp5 := hp5.cell
  have hl5 := hp5.lt
  have HB5 := Lib.hid (Upd.onto hb4 hu5 (fun k hk => by omega) (by rw [hs45]; omega))
  have HN5 := Lib.hid hn5
  have HO5 := Lib.hid ho5
  clear hu4 hn4 hp4 hb4 hu5 hn5 ho5 hp5 HP3 HB3 HN3 HX3 cx hg3 hf3 hs45
  unfold Pcl.val Pcl.cells
  -- Same(y, p)
  go_wp2_with fail
  refine (same20 f t f t false false _ _ l l _ ((Reads.of_own HO5.out).alloc _) ((H.out.below HB5.out).alloc _) (by omega)).mono ?_
  rintro e w6 ⟨rfl, hu6⟩
  rw [Pcl.same_refl]
  have hs6 := hu6.size
  simp only [World.size_alloc] at hs6
  have hu56 := ((Upd.refl Nowhere w5).alloc (.cells #[.int .i64 f, .int .i64 t, .slice A5 l.length c5, .bool false] 28)).trans hu6 fun _ _ => id
  have ho6 := own_upd HO5.out hu56 fun _ _ => id
  obtain ⟨g5, x6, rfl, hg5, hg5', hg6, hf6⟩ := own_at ho6 hk
  have hy6 := (Blk.new w5 28 #[.int .i64 f, .int .i64 t, .slice (some ⟨g5, 0, none⟩) l.length c5, .bool false]).upd hu6 id
  have cy := hy6.cell
  have hl6 := own_lt HO5.out (k := g5) rfl
  have HP6 := Lib.hid (HP5.out.upd hu56 id)
  have HB6 := Lib.hid (Upd.onto HB5.out hu56 (fun _ h => h.elim) (by omega))
  have HN6 := Lib.hid (HN5.out.upd hu56 fun _ _ => id)
  clear hu6 hu56 ho6 hy6 HP5 HB5 HN5 HO5 cp5
  -- y.Body[at] ^= 1; n.Twice(0)
  go_wp2_with fail
  generalize bits BinOp.xor IntKind.u8 (x6.toNat : Int) 1 = u6
  have hu7 : Upd (· = g5) w6 (w6.setCell ⟨g5, k, none⟩ (.int .u8 u6)) := (Upd.refl (· = g5) w6).setCell (fun _ => rfl) _
  have hn7 := HN6.out.upd hu7 (by
    intro j hj he
    subst he
    rcases hj with h | h | ⟨y, hy, h⟩
    · omega
    · omega
    · simp only [List.nil_append, List.mem_singleton] at hy
      subst hy
      have := HV3'.out j h
      omega)
  have hp7 := HP6.out.upd hu7 (by omega)
  have hb7 := Upd.onto HB6.out hu7 (fun _ h => by omega) (by omega)
  have hs67 : (w6.setCell ⟨g5, k, none⟩ (.int .u8 u6)).heap.size = w6.heap.size := by simp [World.setCell]
  refine (twice_ok bn c' _ 0 _ 0 (⟨f, t, l, false⟩, v3) hn7 rfl (by simp)).mono ?_
  rintro e w8 ⟨v8, rfl, hn8, hv8, hu8⟩
  have hs8 := hu8.size
  rw [hs67] at hs8 hv8
  have HP8 := Lib.hid (hp7.upd hu8 (by omega))
  have HB8 := Lib.hid (Upd.onto hb7 hu8 (fun k hk => by omega) (by rw [hs67]; omega))
  have HN8 := Lib.hid hn8
  have HV8 := Lib.hid hv8
  clear hu7 hn7 hp7 hb7 hs67 hu8 hn8 hv8 HP6 HB6 HN6 cy hg6 hf6
  -- n.Spoil(1, at, 1)
  go_wp2_with fail
  obtain ⟨b, hb⟩ : ∃ b, l[k]? = some b := ⟨_, List.getElem?_eq_getElem hk⟩
  refine (spoil_ok bn c' _ 0 _ 1 (⟨f, t, l, false⟩, v8) k 1 b HN8.out rfl hb (by decide) rfl).mono ?_
  rintro e w9 ⟨rfl, hn9, hu9⟩
  have hs9 := hu9.size
  have HP9 := Lib.hid (HP8.out.upd hu9 (by
    rintro (h | h)
    · omega
    · have := HV8.out _ h
      omega))
  have HB9 := Lib.hid (Upd.onto HB8.out hu9 (fun k hk => by
    rcases hk with h | h
    · omega
    · have := HV8.out _ h
      omega) (by omega))
  have HN9 := Lib.hid hn9
  clear hn9 hu9 HN8 HP8 HB8 hb
  have hn9' : NetP w9 bn c' [(⟨f, t, l, false⟩, v3), (⟨f, t, l.set k (b ^^^ 1), true⟩, v8)] 0 := HN9.out
  have HN9' := Lib.hid hn9'
  clear hn9' HN9
  -- n.Spoil(1, at, 1) once more
  go_wp2_with fail
  refine (spoil_state bn c' _ 0 _ 1 (⟨f, t, l.set k (b ^^^ 1), true⟩, v8) k 1 HN9'.out rfl (by simpa using hk) (by decide) rfl).mono ?_
  rintro e w10 ⟨rfl, hn10, hu10⟩
  have hs10 := hu10.size
  have HP10 := Lib.hid (HP9.out.upd hu10 (by omega))
  have HB10 := Lib.hid (Upd.onto HB9.out hu10 (fun k hk => by omega) (by omega))
  have HN10 := Lib.hid hn10
  clear hn10 hu10 HN9' HP9 HB9
  -- a := n.Take(0)
  go_wp2_with fail
  refine (take_ok bn c' _ 0 0 (⟨f, t, l, false⟩, v3) _ HN10.out rfl).mono ?_
  rintro e w11 ⟨rfl, hn11, ho11, hu11⟩
  have hs11 := hu11.size
  obtain ⟨A11, c11, hv11⟩ := own_form ho11
  have hv11' : v3 = .slice A11 l.length c11 := hv11
  have HP11 := Lib.hid (HP10.out.upd hu11 (by omega))
  have HB11 := Lib.hid (Upd.onto HB10.out hu11 (fun k hk => by omega) (by omega))
  have HN11 := Lib.hid (show NetP w11 bn c' [(⟨f, t, l.set k (b ^^^ 1), true⟩, v8)] 0 from hn11)
  have HO11 := Lib.hid ho11
  unfold Pcl.val Pcl.cells
  rw [hv11]
  clear hn11 hu11 ho11 hv11 HN10 HP10 HB10
  -- b := n.Take(0)
  go_wp2_with fail
  refine (take_ok bn c' _ 0 0 (⟨f, t, l.set k (b ^^^ 1), true⟩, v8) _ (HN11.out.upd ((Upd.refl Nowhere w11).alloc (.cells #[.int .i64 f, .int .i64 t, .slice A11 l.length c11, .bool false] 28)) fun _ _ => id) rfl).mono ?_
  rintro e w12 ⟨rfl, hn12, ho12, hu12⟩
  have hs12 := hu12.size
  simp only [World.size_alloc] at hs12
  obtain ⟨A12, c12, hv12⟩ := own_form ho12
  have hlp := HP11.out.lt
  have hp12 := (HP11.out.alloc (.cells #[.int .i64 f, .int .i64 t, .slice A11 l.length c11, .bool false] 28)).upd hu12 (by omega)
  have hl12 := hp12.lt
  have HP12 := Lib.hid hp12
  have cp12 := hp12.cell
  have ha12 := (Blk.new w11 28 #[.int .i64 f, .int .i64 t, .slice A11 l.length c11, .bool false]).upd hu12 (by omega)
  have ca12 := ha12.cell
  have hla := ha12.lt
  have HB12 := Lib.hid (Upd.onto (HB11.out.alloc (by omega) _) hu12 (fun k hk => by omega) (by simp; omega))
  have HN12 := Lib.hid (show NetP w12 bn c' [] 0 from hn12)
  have HO12 := Lib.hid ho12
  have hoa := own_upd (HO11.out.alloc (.cells #[.int .i64 f, .int .i64 t, .slice A11 l.length c11, .bool false] 28)) hu12 (fun j hj he => by
    subst he
    have h1 := HV3.out _ hj
    omega)
  have HOA := Lib.hid hoa
  unfold Pcl.val Pcl.cells
  rw [hv12]
  clear hn12 hu12 ho12 hp12 ha12 hoa HN11 HP11 HB11 HO11
  have hr1 := Reads.of_own HOA.out
  rw [hv11'] at hr1
  have hr2 := Reads.of_own HO12.out
  rw [hv12] at hr2
  have HR1 := Lib.hid hr1
  have hr3 : Reads w12 1 (.slice A12 l.length c12) (l.set k (b ^^^ 1)).length (bytesV (l.set k (b ^^^ 1))) := by rw [List.length_set] at hr2 ⊢; exact hr2
  have HR2 := Lib.hid hr3
  clear hr1 hr2 hr3 hv12 hv11'
  go_wp2_with fail
  refine (same20 f t f t false false _ _ l l _ (HR1.out.alloc _) ((H.out.below HB12.out).alloc _) (by omega)).mono ?_
  rintro e w13 ⟨rfl, hu13⟩
  rw [Pcl.same_refl]
  have hs13 := hu13.size
  simp only [World.size_alloc] at hs13
  have hu' := ((Upd.refl Nowhere w12).alloc (.cells #[.int .i64 f, .int .i64 t, .slice A12 l.length c12, .bool true] 28)).trans hu13 fun _ _ => id
  have cp13 := (HP12.out.upd hu' id).cell
  have hb13 := (Blk.new w12 28 #[.int .i64 f, .int .i64 t, .slice A12 l.length c12, .bool true]).upd hu13 id
  have cb13 := hb13.cell
  have HB13 := Lib.hid (Upd.onto HB12.out hu' (fun _ h => h.elim) (by omega))
  have HN13 := Lib.hid (HN12.out.upd hu' fun _ _ => id)
  have HR13 := Lib.hid (HR2.out.upd hu' fun _ _ => id)
  clear hu13 hu' hb13 HP12 HB12 HN12 HR1 HR2 HO12 HOA cp12 ca12
  go_wp2_with fail
  refine (same20 f t f t true false _ _ (l.set k (b ^^^ 1)) l _ HR13.out (H.out.below HB13.out) (by rw [List.length_set]; omega)).mono ?_
  rintro e w14 ⟨rfl, hu14⟩
  rw [show Pcl.same ⟨f, t, l.set k (b ^^^ 1), true⟩ ⟨f, t, l, false⟩ = false by simp [Pcl.same]]
  have hs14 := hu14.size
  have HB14 := Lib.hid (Upd.onto HB13.out hu14 (fun _ h => h.elim) (by omega))
  have HN14 := Lib.hid (HN13.out.upd hu14 fun _ _ => id)
  clear hu14 HB13 HN13 HR13 cp13 cb13
  go_wp2_with fail
  refine (len_okP HN14.out).mono ?_
  rintro e w15 ⟨rfl, rfl⟩
  rw [List.length_nil]
  go_wp2_with fail
  refine (awake_ok _).mono ?_
  rintro e w15 ⟨rfl, hb⟩
  have HB15 := Lib.hid (HB14.out.trans (hb.mono (by omega)))
  clear hb
  go_wp2
  go_ret
  exact ⟨rfl, HB15.out⟩
end Go.Proofs.Ytnlidhclieipiaa
