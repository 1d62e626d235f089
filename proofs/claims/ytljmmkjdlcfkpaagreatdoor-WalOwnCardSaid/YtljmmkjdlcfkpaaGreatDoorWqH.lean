/-
  Layer 7: a checkpoint's lists, a record may be; a record's bytes, or the error.
-/
import Derived.Test.YtljmmkjdlcfkpaaGreatDoorWqG
namespace Go.Proofs.YtljmmkjdlcfkpaaGreatDoor
open Go Go.RowKit

def encB (m : Bool) (bs : Bs) : Bs × Int := if m = false then ([], 1) else if 4096 < bs.length then ([], 12) else (bs, 0)
def BytesP (bs : Bs) (w : World) (e : Ending) (w' : World) : Prop := ∃ A c, e = .returned (.slice A bs.length c) ∧ OwnB w.heap.size w' (.slice A bs.length c) bs ∧ Upd Nowhere w w'
set_option maxRecDepth 100000 in
set_option maxHeartbeats 4000000 in
theorem encode_walk (k tx prev next coord : Int) (key od nd : Bs) (oh nh : Bool) (a1 a2 a3 a4 a5 a6 : Option Addr) (n1 n2 n3 n4 n5 n6 c1 c2 c3 c4 c5 c6 : Nat) (w : World) (m : Bool) (bs : Bs) (hl : bs.length ≤ 90000) (hm : ∀ w', Upd Nowhere w w' → Calls Tryz.prog 68 #[.agg #[.int .i64 k, .int .i64 tx, .int .i64 prev, .int .i64 next, strV key, .bool oh, strV od, .bool nh, strV nd, .int .i64 coord, .slice a1 n1 c1, .slice a2 n2 c2, .slice a3 n3 c3, .slice a4 n4 c4, .slice a5 n5 c5, .slice a6 n6 c6]] w' (BoolP m w'))
    (hb : m = true → ∀ w', Upd Nowhere w w' → Calls Tryz.prog 69 #[.agg #[.int .i64 k, .int .i64 tx, .int .i64 prev, .int .i64 next, strV key, .bool oh, strV od, .bool nh, strV nd, .int .i64 coord, .slice a1 n1 c1, .slice a2 n2 c2, .slice a3 n3 c3, .slice a4 n4 c4, .slice a5 n5 c5, .slice a6 n6 c6]] w' (BytesP bs w')) :
    Calls Tryz.prog 40 #[.agg #[.int .i64 k, .int .i64 tx, .int .i64 prev, .int .i64 next, strV key, .bool oh, strV od, .bool nh, strV nd, .int .i64 coord, .slice a1 n1 c1, .slice a2 n2 c2, .slice a3 n3 c3, .slice a4 n4 c4, .slice a5 n5 c5, .slice a6 n6 c6]] w fun e w' => ∃ A c, e = .returned (.tuple #[.slice A (encB m bs).1.length c, .int .i64 (encB m bs).2]) ∧ OwnB w.heap.size w' (.slice A (encB m bs).1.length c) (encB m bs).1 ∧ Upd Nowhere w w' := by
  have HU0 := Lib.hid ((Upd.refl Nowhere w).alloc (.cells #[.int .i64 k, .int .i64 tx, .int .i64 prev, .int .i64 next, strV key, .bool oh, strV od, .bool nh, strV nd, .int .i64 coord, .slice a1 n1 c1, .slice a2 n2 c2, .slice a3 n3 c3, .slice a4 n4 c4, .slice a5 n5 c5, .slice a6 n6 c6] 38))
  have HB0 := Lib.hid (Blk.new w 38 #[.int .i64 k, .int .i64 tx, .int .i64 prev, .int .i64 next, strV key, .bool oh, strV od, .bool nh, strV nd, .int .i64 coord, .slice a1 n1 c1, .slice a2 n2 c2, .slice a3 n3 c3, .slice a4 n4 c4, .slice a5 n5 c5, .slice a6 n6 c6])
  have HM := Lib.hid hm
  have HB := Lib.hid hb
  have hlI : ((bs.length : Nat) : Int) ≤ 90000 := by omega
  clear hm hb hl
  go_enter Tryz.func40, Tryz.ntmps40
  go_wp2_with fail
  refine Calls.mono (HM.out _ HU0.out) ?_
  rintro e w1 ⟨rfl, hU1⟩
  have hB1 := HB0.out.upd hU1 id
  obtain ⟨b0, b1, b2, b3, b4, b5, b6, b7, b8, b9, b10, b11, b12, b13, b14, b15⟩ := hB1.all16
  have hlt := hB1.lt
  have HU1 := Lib.hid (HU0.out.same hU1)
  clear hB1 hU1
  cases m with
  | false =>
    go_wp2_with fail
    go_ret2
    exact ⟨none, 0, rfl, OwnR.nil _ _ _ _ _, HU1.out⟩
  | true =>
    go_wp2_with fail
    refine Calls.mono (HB.out (by trivial) _ HU1.out) ?_
    rintro e w2 ⟨A, c, rfl, hO2, hU2⟩
    have HO2 := Lib.hid hO2
    have HU2 := Lib.hid hU2
    clear hO2 hU2 HB HM
    by_cases h : 4096 < bs.length
    · have hI : (4096 : Int) < ((bs.length : Nat) : Int) := by omega
      have hen : encB true bs = ([], 12) := by simp [encB, h]
      have HEN := Lib.hid hen
      clear hen
      go_wp2_with fail
      go_ret2
      rw [HEN.out]
      exact ⟨none, 0, rfl, OwnR.nil _ _ _ _ _, HU1.out.same HU2.out⟩
    · have hI : ¬ (4096 : Int) < ((bs.length : Nat) : Int) := by omega
      have hen : encB true bs = (bs, 0) := by simp [encB, h]
      have HEN := Lib.hid hen
      clear hen
      go_wp2_with fail
      go_ret2
      rw [HEN.out]
      exact ⟨A, c, rfl, HO2.out.far fun k hk => Nat.le_trans HU1.out.size (HO2.out.new k hk), HU1.out.same HU2.out⟩
/-! ### what the walks ask of a record -/
structure RecP.mild (x : RecP) : Prop where
  ml : x.mem.length ≤ 90000
  ll : x.loc.length ≤ 90000
  rl : x.row.length ≤ 90000
  rb : ∀ r ∈ x.row, r.mem.length ≤ 90000 ∧ r.loc.length ≤ 90000
  dl : x.dir.length ≤ 90000
  el : x.dee.length ≤ 90000
  eb : ∀ d ∈ x.dee, d.2.length ≤ 90000
  pl : x.pas.length ≤ 90000
theorem risesP_map {α β : Type} (f : α → β) (may : β → Bool) (less : β → β → Bool) : ∀ (p : Option α) (l : List α), risesP (fun a => may (f a)) (fun a b => less (f a) (f b)) p l = risesP may less (p.map f) (l.map f) := by
  intro p l
  induction l generalizing p with
  | nil => rfl
  | cons a l ih =>
    simp only [List.map_cons, risesP, ih]
    cases p <;> rfl
theorem risingP_map {α β : Type} (f : α → β) (most : Nat) (may : β → Bool) (less : β → β → Bool) (l : List α) : risingP most (fun a => may (f a)) (fun a b => less (f a) (f b)) l = risingP most may less (l.map f) := by
  unfold risingP
  rw [risesP_map, List.length_map]
  rfl
theorem Els.len {α : Type} {sz : Nat} {cells : α → List Value} {w : World} {t : SlT} {L : List α} (h : Els sz cells w (slV t) L) : t.2.1 = L.length := by
  obtain ⟨A, c, e, _⟩ := h.val
  unfold slV at e
  injection e
theorem Els.up {α : Type} {sz : Nat} {cells : α → List Value} {w w' : World} {v : Value} {L : List α} (h : Els sz cells w v L) (hu : Upd Nowhere w w') : Els sz cells w' v L := h.upd hu fun _ _ e => e
theorem RowW.old.up {w w' : World} {r : RowW} (h : r.old w) (hu : Upd Nowhere w w') : r.old w' := ⟨h.1.up hu, h.2.up hu⟩
section
variable {w : World} {x : RecP} {s : Sls}
theorem check_ok (hE : RecE w x s) (hm : x.mild) : Calls Tryz.prog 103 #[.agg (x.rv s).cells.toArray] w (BoolP x.check w) := by
  obtain ⟨rs, hr1, hr2, hr3⟩ := hE.row
  obtain ⟨ds, he1, he2, he3⟩ := hE.dee
  have hrm : ∀ q ∈ rs, q.p ∈ x.row := fun q hq => by rw [← hr2]; exact List.mem_map_of_mem hq
  have hem : ∀ q ∈ ds, q.p ∈ x.dee := fun q hq => by rw [← he2]; exact List.mem_map_of_mem hq
  refine check_walk x.kind x.tx x.prev x.next x.coord x.key x.od x.nd x.oh x.nh s.mem.1 s.loc.1 s.row.1 s.dir.1 s.dee.1 s.pas.1 s.mem.2.1 s.loc.2.1 s.row.2.1 s.dir.2.1 s.dee.2.1 s.pas.2.1 s.mem.2.2 s.loc.2.2 s.row.2.2 s.dir.2.2 s.dee.2.2 s.pas.2.2 w (risingP 64 RowP.may RowP.less x.row) (risingP 64 dirMay dirLess x.dir) (risingP 64 deeMay deeLess x.dee) (risingP 256 pasMay ltP x.pas) ?_ ?_ ?_ ?_
  · intro w' hu
    have h := risingR_ok (hr1.up hu) (by have := hm.rl; rw [← hr2, List.length_map] at this; exact this) 64 (by omega) (fun r => r.p.may) (fun a b => RowP.less a.p b.p) (fun q hq w'' hu' => row_ok q hu' ((hr3 q hq).up hu) (hm.rb _ (hrm q hq)).1 (hm.rb _ (hrm q hq)).2) (fun a _ b _ w'' _ => rowless_ok a b w'')
    rw [risingP_map (fun r : RowW => r.p) 64 RowP.may RowP.less, hr2] at h
    exact h
  · intro w' hu
    exact risingD_ok (hE.dir.up hu) hm.dl 64 (by omega) dirMay dirLess (fun q _ w'' _ => dirmay_ok q w'') (fun a _ b _ w'' _ => dirless_ok a b w'')
  · intro w' hu
    have h := risingE_ok (he1.up hu) (by have := hm.el; rw [← he2, List.length_map] at this; exact this) 64 (by omega) (fun r => deeMay r.p) (fun a b => deeLess a.p b.p) (fun q hq w'' hu' => deemay_ok q hu' ((he3 q hq).up hu) (hm.eb _ (hem q hq))) (fun a _ b _ w'' _ => deeless_ok a b w'')
    rw [risingP_map (fun r : DeedV => r.p) 64 deeMay deeLess, he2] at h
    exact h
  · intro w' hu
    exact risingI_ok (hE.pas.up hu) hm.pl 256 (by omega) pasMay ltP 151 152 cf_check6 cf_lower (fun q _ w'' _ => pasmay_ok q w'') (fun a _ b _ w'' _ => lower_ok a b w'')
theorem spare_ok (hk : kindP x.kind = true) (hE : RecE w x s) (hm : x.mild) : Calls Tryz.prog 102 #[.agg (x.rv s).cells.toArray] w (BoolP x.spare w) := by
  have l1 := hE.mem.len
  have l2 := hE.loc.len
  have l4 := hE.dir.len
  have l6 := hE.pas.len
  obtain ⟨rs, hr1, hr2, hr3⟩ := hE.row
  obtain ⟨ds, he1, he2, he3⟩ := hE.dee
  have l3 : s.row.2.1 = x.row.length := by rw [hr1.len, ← hr2, List.length_map]
  have l5 : s.dee.2.1 = x.dee.length := by rw [he1.len, ← he2, List.length_map]
  have hb : ∀ k, x.kind = k → spareB (wantsP k) x.prev x.next x.key x.oh x.od x.nh x.nd x.coord s.mem.2.1 s.loc.2.1 s.row.2.1 s.dir.2.1 s.dee.2.1 s.pas.2.1 = x.spare := by
    rintro k rfl
    rw [l1, l2, l3, l4, l5, l6]
    have e0 : ∀ n : Int, (n != 0) = decide (n ≠ 0) := fun n => by by_cases h : n = 0 <;> simp [h]
    have e1 : ∀ l : Bs, (l != []) = decide (l ≠ []) := fun l => by cases l <;> simp
    have e2 : ∀ {α : Type} (l : List α), (((l.length : Nat) : Int) != 0) = decide (l ≠ []) := fun l => by
      cases l with
      | nil => rfl
      | cons a l =>
        rw [e0, decide_eq_decide]
        simp only [List.length_cons]
        exact ⟨fun _ h => (by cases h), fun _ h => (by omega)⟩
    have e3 : (((x.row.length : Nat) : Int) + (x.dir.length : Nat) + (x.dee.length : Nat) + (x.pas.length : Nat) != 0) = decide (¬ (x.row = [] ∧ x.dir = [] ∧ x.dee = [] ∧ x.pas = [])) := by
      rw [e0, decide_eq_decide]
      simp only [← List.length_eq_zero_iff]
      omega
    unfold spareB RecP.spare
    simp only [e0 x.prev, e0 x.next, e0 x.coord, e1, e2 x.mem, e2 x.loc, e3]
  have i3 : ((s.row.2.1 : Nat) : Int) ≤ 90000 := by have := hm.rl; omega
  have i4 : ((s.dir.2.1 : Nat) : Int) ≤ 90000 := by have := hm.dl; omega
  have i5 : ((s.dee.2.1 : Nat) : Int) ≤ 90000 := by have := hm.el; omega
  have i6 : ((s.pas.2.1 : Nat) : Int) ≤ 90000 := by have := hm.pl; omega
  unfold kindP at hk
  rw [Bool.and_eq_true, decide_eq_true_eq, decide_eq_true_eq] at hk
  rcases (by omega : x.kind = 1 ∨ x.kind = 2 ∨ x.kind = 3 ∨ x.kind = 4 ∨ x.kind = 5 ∨ x.kind = 6 ∨ x.kind = 7 ∨ x.kind = 8 ∨ x.kind = 9 ∨ x.kind = 10) with e | e | e | e | e | e | e | e | e | e
  · have h := spare_a x s i3 i4 i5 i6 w (by rw [e]; exact wants1_ok)
    have h2 := hb _ e
    unfold wantsP at h2
    simp only [Int.reduceEq, if_false, if_true, or_false] at h2
    rw [h2] at h
    exact h
  · have h := spare_b x s i3 i4 i5 i6 w (by rw [e]; exact wants2_ok)
    have h2 := hb _ e
    unfold wantsP at h2
    simp only [Int.reduceEq, if_false, if_true, or_false] at h2
    rw [h2] at h
    exact h
  · have h := spare_c x s i3 i4 i5 i6 w (by rw [e]; exact wants3_ok)
    have h2 := hb _ e
    unfold wantsP at h2
    simp only [Int.reduceEq, if_false, if_true, or_false] at h2
    rw [h2] at h
    exact h
  · have h := spare_d x s i3 i4 i5 i6 w (by rw [e]; exact wants4_ok)
    have h2 := hb _ e
    unfold wantsP at h2
    simp only [Int.reduceEq, if_false, if_true, or_false] at h2
    rw [h2] at h
    exact h
  · have h := spare_d x s i3 i4 i5 i6 w (by rw [e]; exact wants5_ok)
    have h2 := hb _ e
    unfold wantsP at h2
    simp only [Int.reduceEq, if_false, if_true, or_false, or_true] at h2
    rw [h2] at h
    exact h
  · have h := spare_d x s i3 i4 i5 i6 w (by rw [e]; exact wants6_ok)
    have h2 := hb _ e
    unfold wantsP at h2
    simp only [Int.reduceEq, if_false, if_true, or_true] at h2
    rw [h2] at h
    exact h
  · have h := spare_e x s i3 i4 i5 i6 w (by rw [e]; exact wants7_ok)
    have h2 := hb _ e
    unfold wantsP at h2
    simp only [Int.reduceEq, if_false, or_false] at h2
    rw [h2] at h
    exact h
  · have h := spare_f x s i3 i4 i5 i6 w (by rw [e]; exact wants8_ok)
    have h2 := hb _ e
    unfold wantsP at h2
    simp only [Int.reduceEq, if_false, if_true, or_false] at h2
    rw [h2] at h
    exact h
  · have h := spare_g x s i3 i4 i5 i6 w (by rw [e]; exact wants9_ok)
    have h2 := hb _ e
    unfold wantsP at h2
    simp only [Int.reduceEq, if_false, if_true, or_false] at h2
    rw [h2] at h
    exact h
  · have h := spare_e x s i3 i4 i5 i6 w (by rw [e]; exact wants10_ok)
    have h2 := hb _ e
    unfold wantsP at h2
    simp only [Int.reduceEq, if_false, or_false] at h2
    rw [h2] at h
    exact h
theorem may_ok (hE : RecE w x s) (hm : x.mild) : Calls Tryz.prog 68 #[.agg (x.rv s).cells.toArray] w (BoolP x.may w) := by
  have h := may_walk x.kind x.tx x.prev x.next x.coord x.key x.od x.nd x.oh x.nh s.mem.1 s.loc.1 s.row.1 s.dir.1 s.dee.1 s.pas.1 s.mem.2.1 s.loc.2.1 s.row.2.1 s.dir.2.1 s.dee.2.1 s.pas.2.1 s.mem.2.2 s.loc.2.2 s.row.2.2 s.dir.2.2 s.dee.2.2 s.pas.2.2 w (kindP x.kind) x.spare x.check (keyP x.key) (valueP x.oh x.od) (valueP x.nh x.nd) (seqP x.tx 1) (seqP x.prev 0) (seqP x.next 0) (nodeP x.coord) (membersP x.mem) (locksP x.loc)
    (fun w' _ => kind_ok _ w') (fun hk w' hu => spare_ok hk (hE.up hu) hm) (fun w' hu => check_ok (hE.up hu) hm) (fun w' _ => reckey_ok2 _ w') (fun w' _ => recvalue_ok2 _ _ w') (fun w' _ => recvalue_ok2 _ _ w')
    (fun w' _ => seq_ok _ _ w') (fun w' _ => seq_ok _ _ w') (fun w' _ => seq_ok _ _ w') (fun w' _ => node_ok _ w') (fun w' hu => members_ok (hE.mem.up hu) hm.ml) (fun w' hu => reclocks_ok (hE.loc.up hu) hm.ll)
  exact h
end
end Go.Proofs.YtljmmkjdlcfkpaaGreatDoor
