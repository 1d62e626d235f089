/-
  (*net.Net).Take and Look, over a net that is told by its parcels.
-/
import Derived.Test.YtnlidhclieipiaaNetD
namespace Go.Proofs.Ytnlidhclieipiaa
open Go Go.RowKit

/-- The parcels of a net: each with the slice in which its body lies. -/
abbrev Pcls := List (Pcl × Value)
def vals (L : Pcls) : List Value := L.map fun x => x.1.val x.2

structure NetP (w : World) (bn c : Nat) (L : Pcls) (lost : Int) : Prop where
  net : NetV w bn c (vals L) lost
  len : L.length ≤ 256
  own : ∀ x ∈ L, w.ownsRow 0 5 1 x.2 x.1.body.length (bytesV x.1.body)
  apart : L.Pairwise fun x y => ∀ k, x.2.ownBlock = some k → y.2.ownBlock ≠ some k
  small : ∀ x ∈ L, x.1.body.length ≤ 4096

/-- The blocks that belong to a net. -/
def foot (bn c : Nat) (L : Pcls) (k : Nat) : Prop := k = bn ∨ k = c ∨ ∃ x ∈ L, x.2.ownBlock = some k

theorem NetP.upd {F : Nat → Prop} {w w' : World} {bn c : Nat} {L : Pcls} {lost : Int} (h : NetP w bn c L lost) (hu : Upd F w w') (hF : ∀ k, foot bn c L k → ¬ F k) : NetP w' bn c L lost :=
  ⟨h.net.upd hu (hF _ (.inl rfl)) (hF _ (.inr (.inl rfl))), h.len, fun x hx => own_upd (h.own x hx) hu fun k hk => hF k (.inr (.inr ⟨x, hx, hk⟩)), h.apart, h.small⟩
theorem NetP.lt {w : World} {bn c : Nat} {L : Pcls} {lost : Int} (h : NetP w bn c L lost) {k : Nat} (hk : foot bn c L k) : k < w.heap.size := by
  rcases hk with rfl | rfl | ⟨x, hx, hk⟩
  · exact h.net.1.lt
  · obtain ⟨_, s, r, hc⟩ := h.net; exact lt_of_heap hc
  · exact own_lt (h.own x hx) hk
theorem NetP.form {w : World} {bn c : Nat} {L : Pcls} {lost : Int} (h : NetP w bn c L lost) : ∀ v ∈ vals L, IsPcl v := by
  intro v hv
  obtain ⟨x, hx, rfl⟩ := List.mem_map.1 hv
  obtain ⟨A, k, he⟩ := own_form (h.own x hx)
  exact ⟨_, _, A, _, k, _, by rw [Pcl.val, Pcl.cells, he]⟩
theorem NetP.chan_ne {w : World} {bn c : Nat} {L : Pcls} {lost : Int} (h : NetP w bn c L lost) {x : Pcl × Value} (hx : x ∈ L) : x.2.ownBlock ≠ some c := by
  obtain ⟨_, s, r, hc⟩ := h.net
  exact own_chan_ne (h.own x hx) hc
theorem NetP.blk_ne {w : World} {bn c : Nat} {L : Pcls} {lost : Int} (h : NetP w bn c L lost) {x : Pcl × Value} (hx : x ∈ L) : x.2.ownBlock ≠ some bn := own_blk_ne (h.own x hx) h.net.1 (by decide)

set_option maxHeartbeats 1000000 in
theorem round_nil (i : Int) (v : Value) (w : World) : Calls Try.prog 27 #[.pointer none, .int .i64 i, v] w fun e w' => e = .returned (.int .i64 2) ∧ w = w' := by
  go_enter Try.func27, Try.ntmps27
  go_wp2
  go_ret
  exact ⟨rfl, rfl⟩

set_option maxHeartbeats 1000000 in
theorem round_bad (bn c : Nat) (vs : List Value) (lost : Int) (i : Int) (v : Value) (w : World) (hnet : NetV w bn c vs lost) (hi : i < 0 ∨ vs.length ≤ i) :
    Calls Try.prog 27 #[.pointer (some ⟨bn, 0, none⟩), .int .i64 i, v] w fun e w' => e = .returned (.int .i64 1) ∧ w = w' := by
  obtain ⟨hb, s0, r0, hch⟩ := hnet
  have hcell := hb.cell
  have hl := run_len_chan w c 256 s0 r0 vs.toArray false hch
  rw [show vs.toArray.size = vs.length by simp] at hl
  clear hb hch
  by_cases h0 : i < 0
  · go_enter Try.func27, Try.ntmps27
    go_wp2
    go_ret
    exact ⟨rfl, rfl⟩
  · have h1 : (vs.length : Int) ≤ i := by omega
    clear hi
    go_enter Try.func27, Try.ntmps27
    go_wp2
    go_ret
    exact ⟨rfl, rfl⟩

def zeroPcl : Array Value := #[.int .i64 0, .int .i64 0, .slice none 0 0, .bool false]

set_option maxHeartbeats 1000000 in
theorem take1_ok (q bo : Nat) (a b : Int) (A : Option Addr) (n k : Nat) (s : Bool) (w : World) (hq : Blk w q 28 #[.int .i64 a, .int .i64 b, .slice A n k, .bool s]) (ho : Blk w bo 28 zeroPcl) :
    Calls Try.prog 28 #[.pointer (some ⟨q, 0, none⟩), .pointer (some ⟨bo, 0, none⟩)] w fun e w' =>
      e = .returned (.bool false) ∧ Blk w' bo 28 #[.int .i64 a, .int .i64 b, .slice A n k, .bool s] ∧ Upd (· = bo) w w' := by
  have c0 := hq.cell
  have HO := Lib.hid ho
  unfold zeroPcl at ho
  have c1 := ho.cell
  have f1 := ho.frozen
  clear ho hq
  go_enter Try.func28, Try.ntmps28
  go_wp2
  go_ret
  refine ⟨rfl, ?_, ?_⟩
  · exact (((HO.out.set_ 0 _).set_ 1 _).set_ 2 _).set_ 3 _
  · exact ((((Upd.refl (· = bo) w).setCell (fun _ => rfl) _).setCell (fun _ => rfl) _).setCell (fun _ => rfl) _).setCell (fun _ => rfl) _

set_option maxHeartbeats 1000000 in
theorem look1_ok (q bo : Nat) (a b : Int) (v : Value) (l : List UInt8) (s : Bool) (w : World) (hq : Blk w q 28 #[.int .i64 a, .int .i64 b, v, .bool s]) (ho : Blk w bo 28 zeroPcl)
    (hv : Reads w 1 v l.length (bytesV l)) (hl : l.length ≤ 4096) :
    Calls Try.prog 30 #[.pointer (some ⟨q, 0, none⟩), .pointer (some ⟨bo, 0, none⟩)] w fun e w' =>
      ∃ v', e = .returned (.bool true) ∧ Blk w' bo 28 #[.int .i64 a, .int .i64 b, v', .bool s] ∧ w'.ownsRow w.heap.size 5 1 v' l.length (bytesV l) ∧ Upd (· = bo) w w' := by
  obtain ⟨A, k, rfl, _⟩ := hv.val
  have c0 := hq.cell
  have HO := Lib.hid ho
  have HV := Lib.hid hv
  have hbo := ho.lt
  clear ho hq hv
  go_enter Try.func30, Try.ntmps30
  go_wp2_with fail
  refine (own_ok _ _ _ _ _ _ _ HV.out (bytesV_one _) (by omega)).mono ?_
  rintro e w1 ⟨v', rfl, hown, hu⟩
  have ho1 := HO.out.upd hu id
  have HO1 := Lib.hid ho1
  unfold zeroPcl at ho1
  have c1 := ho1.cell
  have f1 := ho1.frozen
  obtain ⟨A', k', hv'⟩ := own_form hown
  subst hv'
  have HU := Lib.hid hu
  have HW := Lib.hid hown
  clear hu hown ho1 HO
  go_wp2
  go_ret
  have hU : Upd (· = bo) w1 ((((w1.setCell ⟨bo, 0, none⟩ (.int .i64 a)).setCell ⟨bo, 1, none⟩ (.int .i64 b)).setCell ⟨bo, 2, none⟩ (.slice A' l.length k')).setCell ⟨bo, 3, none⟩ (.bool s)) :=
    ((((Upd.refl (· = bo) w1).setCell (fun _ => rfl) _).setCell (fun _ => rfl) _).setCell (fun _ => rfl) _).setCell (fun _ => rfl) _
  refine ⟨_, rfl, (((HO1.out.set_ 0 _).set_ 1 _).set_ 2 _).set_ 3 _, ?_, ?_⟩
  · refine own_upd HW.out hU fun k hk he => ?_
    have := (HW.out.lt k hk).1
    omega
  · exact (HU.out.mono fun _ _ h => h.elim).trans hU fun _ _ h => h

theorem vals_get (L : Pcls) (i : Nat) : (vals L)[i]? = (L[i]?).map fun x => x.1.val x.2 := by simp [vals]
theorem vals_length (L : Pcls) : (vals L).length = L.length := by simp [vals]
theorem vals_erase (L : Pcls) (i : Nat) : vals (L.eraseIdx i) = (vals L).take i ++ (vals L).drop (i + 1) := by
  rw [List.eraseIdx_eq_take_drop_succ]
  simp [vals, List.map_take, List.map_drop]

/-- A net that has lost one of its parcels. -/
theorem NetP.erased {w : World} {bn c : Nat} {L : Pcls} {lost : Int} (h : NetP w bn c L lost) {w' : World} (i : Nat) (hu : Upd (· = c) w w') (hn : NetV w' bn c ((vals L).take i ++ (vals L).drop (i + 1)) lost) : NetP w' bn c (L.eraseIdx i) lost := by
  have hm : ∀ x, x ∈ L.eraseIdx i → x ∈ L := fun x hx => (List.eraseIdx_sublist L i).subset hx
  refine ⟨by rw [vals_erase]; exact hn, Nat.le_trans (List.eraseIdx_sublist L i).length_le h.len, fun x hx => own_upd (h.own x (hm x hx)) hu fun k hk he => ?_, h.apart.sublist (List.eraseIdx_sublist L i), fun x hx => h.small x (hm x hx)⟩
  subst he
  exact h.chan_ne (hm x hx) hk

theorem foot_erase {bn c : Nat} {L : Pcls} {i k : Nat} (h : foot bn c (L.eraseIdx i) k) : foot bn c L k := by
  rcases h with h | h | ⟨x, hx, h⟩
  · exact .inl h
  · exact .inr (.inl h)
  · exact .inr (.inr ⟨x, (List.eraseIdx_sublist L i).subset hx, h⟩)

theorem cf_take1 (args : Array Value) (w : World) : (callFunc 28 args).run Try.prog w = .ok (.enter 28 args) w := by kernel_rfl
theorem cf_look1 (args : Array Value) (w : World) : (callFunc 30 args).run Try.prog w = .ok (.enter 30 args) w := by kernel_rfl

set_option maxHeartbeats 1000000 in
theorem take_ok (bn c : Nat) (L : Pcls) (lost : Int) (i : Nat) (x : Pcl × Value) (w : World) (hnet : NetP w bn c L lost) (hx : L[i]? = some x) :
    Calls Try.prog 12 #[.pointer (some ⟨bn, 0, none⟩), .int .i64 i] w fun e w' =>
      e = .returned (.tuple #[x.1.val x.2, .int .i64 0]) ∧ NetP w' bn c (L.eraseIdx i) lost ∧ w'.ownsRow 0 5 1 x.2 x.1.body.length (bytesV x.1.body) ∧ Upd (· = c) w w' := by
  have hmem : x ∈ L := List.mem_of_getElem? hx
  have hi : i < L.length := (List.getElem?_eq_some_iff.1 hx).1
  obtain ⟨A, k, hv⟩ := own_form (hnet.own x hmem)
  have hcells : x.1.cells x.2 = #[.int .i64 x.1.frm, .int .i64 x.1.dst, .slice A x.1.body.length k, .bool x.1.spoilt] := by rw [Pcl.cells, hv]
  have hA : Upd (· = c) w (w.alloc (.cells zeroPcl 28)) := (Upd.refl _ _).alloc _
  have hnA : NetP (w.alloc (.cells zeroPcl 28)) bn c L lost := hnet.upd ((Upd.refl Nowhere w).alloc _) fun _ _ => id
  have hbo : Blk (w.alloc (.cells zeroPcl 28)) w.heap.size 28 zeroPcl := Blk.new _ _ _
  have hbc : w.heap.size ≠ c := by have := hnet.lt (.inr (.inl rfl)); omega
  have hbb : w.heap.size ≠ bn := by have := hnet.lt (.inl rfl); omega
  have hround := round_ok bn c (vals L) lost i 28 #[.pointer (some ⟨w.heap.size, 0, none⟩)] (w.alloc (.cells zeroPcl 28)) hnA.net (by rw [vals_length]; exact hi) (by rw [vals_length]; exact hnet.len) hnA.form cf_take1
    (· = w.heap.size) (Ne.symm hbc) (Ne.symm hbb) (fun stay cs w1 w2 => stay = false ∧ Blk w2 w.heap.size 28 (x.1.cells x.2) ∧ Upd (· = w.heap.size) w1 w2) (by
      intro w1 q cs hcs hu hq hb
      rw [vals_get, hx] at hcs
      obtain rfl : x.1.cells x.2 = cs := by simpa [Pcl.val] using hcs
      rw [hcells] at hb ⊢
      have hqo : q ≠ w.heap.size := by simp at hq; omega
      refine (take1_ok q w.heap.size _ _ A _ k _ w1 hb (hbo.upd hu hbc)).mono ?_
      rintro e w2 ⟨rfl, h1, h2⟩
      exact ⟨false, _, rfl, hb.upd h2 hqo, ⟨_, _, _, _, _, _, rfl⟩, h2.mono fun _ _ h => .inl h, rfl, h1, h2⟩)
  have HX := Lib.hid hx
  have HV := Lib.hid hv
  have HN := Lib.hid hnet
  have HR := Lib.hid hround
  have HC := Lib.hid hcells
  unfold zeroPcl at HR
  clear hx hv hnet hround hnA hbo hA hcells
  go_enter Try.func12, Try.ntmps12
  go_wp2_with fail
  refine HR.out.mono ?_
  rintro e w3 ⟨stay, cs, w1, w2, rfl, h1, ⟨rfl, hbo2, hu2⟩, h3, h4⟩
  have hbo3 := hbo2.upd h3 hbc
  have HB := Lib.hid hbo3
  rw [HC.out] at hbo3
  have c1 := hbo3.cell
  have f1 := hbo3.frozen
  have HU := Lib.hid ((((((Upd.refl (· = c) w).alloc (.cells zeroPcl 28)).trans h1 fun _ _ h => h).trans hu2 fun k hk h => by omega).trans h3 fun _ _ h => h))
  have HN4 := Lib.hid h4
  clear hbo3 hbo2 hu2 h1 h3 h4 HR
  go_wp2
  have hU : Upd (· = w.heap.size) w3 ((((w3.setCell ⟨w.heap.size, 0, none⟩ (.int .i64 x.1.frm)).setCell ⟨w.heap.size, 1, none⟩ (.int .i64 x.1.dst)).setCell ⟨w.heap.size, 2, none⟩ (.slice A x.1.body.length k)).setCell ⟨w.heap.size, 3, none⟩ (.bool x.1.spoilt)) :=
    ((((Upd.refl (· = w.heap.size) w3).setCell (fun _ => rfl) _).setCell (fun _ => rfl) _).setCell (fun _ => rfl) _).setCell (fun _ => rfl) _
  refine bodyPost_ret (v := .tuple #[.agg #[.int .i64 x.1.frm, .int .i64 x.1.dst, .slice A x.1.body.length k, .bool x.1.spoilt], .int .i64 0]) (by simp [results, Try.results12, go_sem, c1]) rfl ⟨?_, ?_, ?_, ?_⟩
  · rw [Pcl.val, HC.out]
  · refine (HN.out.erased i HU.out (by simpa [kept] using HN4.out)).upd hU fun k hk he => ?_
    have := HN.out.lt (foot_erase hk)
    omega
  · refine own_upd (own_upd (HN.out.own x hmem) HU.out fun k hk he => ?_) hU fun k hk he => ?_
    · subst he; exact HN.out.chan_ne hmem hk
    · have := own_lt (HN.out.own x hmem) hk
      omega
  · exact HU.out.trans hU fun k hk h => by omega

set_option maxHeartbeats 1000000 in
theorem look_ok (bn c : Nat) (L : Pcls) (lost : Int) (i : Nat) (x : Pcl × Value) (w : World) (hnet : NetP w bn c L lost) (hx : L[i]? = some x) :
    Calls Try.prog 18 #[.pointer (some ⟨bn, 0, none⟩), .int .i64 i] w fun e w' =>
      ∃ v', e = .returned (.tuple #[x.1.val v', .int .i64 0]) ∧ NetP w' bn c L lost ∧ w'.ownsRow w.heap.size 5 1 v' x.1.body.length (bytesV x.1.body) ∧ Upd (· = c) w w' := by
  have hmem : x ∈ L := List.mem_of_getElem? hx
  have hi : i < L.length := (List.getElem?_eq_some_iff.1 hx).1
  obtain ⟨A, k, hv⟩ := own_form (hnet.own x hmem)
  have hnA : NetP (w.alloc (.cells zeroPcl 28)) bn c L lost := hnet.upd ((Upd.refl Nowhere w).alloc _) fun _ _ => id
  have hbo : Blk (w.alloc (.cells zeroPcl 28)) w.heap.size 28 zeroPcl := Blk.new _ _ _
  have hbc : w.heap.size ≠ c := by have := hnet.lt (.inr (.inl rfl)); omega
  have hbb : w.heap.size ≠ bn := by have := hnet.lt (.inl rfl); omega
  have hround := round_ok bn c (vals L) lost i 30 #[.pointer (some ⟨w.heap.size, 0, none⟩)] (w.alloc (.cells zeroPcl 28)) hnA.net (by rw [vals_length]; exact hi) (by rw [vals_length]; exact hnet.len) hnA.form cf_look1
    (· = w.heap.size) (Ne.symm hbc) (Ne.symm hbb) (fun stay cs w1 w2 => stay = true ∧ cs = x.1.cells x.2 ∧ (∃ v', Blk w2 w.heap.size 28 (x.1.cells v') ∧ w2.ownsRow (w.heap.size + 1) 5 1 v' x.1.body.length (bytesV x.1.body)) ∧ Upd (· = w.heap.size) w1 w2) (by
      intro w1 q cs hcs hu hq hb
      rw [vals_get, hx] at hcs
      obtain rfl : x.1.cells x.2 = cs := by simpa [Pcl.val] using hcs
      have hqo : q ≠ w.heap.size := by simp at hq; omega
      have hown1 := own_upd (hnA.own x hmem) hu fun k hk he => by subst he; exact hnA.chan_ne hmem hk
      refine (look1_ok q w.heap.size x.1.frm x.1.dst x.2 x.1.body x.1.spoilt w1 hb (hbo.upd hu hbc) (Reads.of_own hown1) (hnet.small x hmem)).mono ?_
      rintro e w2 ⟨v', rfl, h1, ho, h2⟩
      refine ⟨true, _, rfl, hb.upd h2 hqo, ⟨_, _, A, _, k, _, by rw [Pcl.cells, hv]⟩, h2.mono fun _ _ h => .inl h, rfl, rfl, ⟨v', h1, own_base ho _ fun k hk => ?_⟩, h2⟩
      have h3 := (ho.lt k hk).1
      have h4 := hu.size
      simp at h4
      omega)
  have HX := Lib.hid hx
  have HN := Lib.hid hnet
  have HR := Lib.hid hround
  unfold zeroPcl at HR
  clear hx hv hnet hround hnA hbo
  go_enter Try.func18, Try.ntmps18
  go_wp2_with fail
  refine HR.out.mono ?_
  rintro e w3 ⟨stay, cs, w1, w2, rfl, h1, ⟨rfl, hcs, ⟨v', hbo2, hown⟩, hu2⟩, h3, h4⟩
  have hbo3 := hbo2.upd h3 hbc
  obtain ⟨A', k', hv'⟩ := own_form hown
  subst hv'
  unfold Pcl.cells at hbo3
  have c1 := hbo3.cell
  have f1 := hbo3.frozen
  have hvc : ∀ k, (Value.slice A' x.1.body.length k').ownBlock = some k → k ≠ c := fun k hk he => by
    have e1 := (hown.lt k hk).1
    have e2 := HN.out.lt (.inr (.inl rfl))
    omega
  have HO := Lib.hid (own_upd hown h3 hvc)
  have HU := Lib.hid ((((((Upd.refl (· = c) w).alloc (.cells zeroPcl 28)).trans h1 fun _ _ h => h).trans hu2 fun k hk h => by omega).trans h3 fun _ _ h => h))
  have HCS := Lib.hid hcs
  have HN4 := Lib.hid h4
  clear hbo3 hbo2 hu2 h1 h3 h4 HR hown hcs hvc
  go_wp2
  have hU : Upd (· = w.heap.size) w3 ((((w3.setCell ⟨w.heap.size, 0, none⟩ (.int .i64 x.1.frm)).setCell ⟨w.heap.size, 1, none⟩ (.int .i64 x.1.dst)).setCell ⟨w.heap.size, 2, none⟩ (.slice A' x.1.body.length k')).setCell ⟨w.heap.size, 3, none⟩ (.bool x.1.spoilt)) :=
    ((((Upd.refl (· = w.heap.size) w3).setCell (fun _ => rfl) _).setCell (fun _ => rfl) _).setCell (fun _ => rfl) _).setCell (fun _ => rfl) _
  refine bodyPost_ret (v := .tuple #[.agg #[.int .i64 x.1.frm, .int .i64 x.1.dst, .slice A' x.1.body.length k', .bool x.1.spoilt], .int .i64 0]) (by simp [results, Try.results18, go_sem, c1]) rfl ⟨_, rfl, ?_, ?_, ?_⟩
  · have hn3 : NetP w3 bn c L lost := by
      refine ⟨?_, HN.out.len, fun y hy => own_upd (HN.out.own y hy) HU.out fun k hk he => ?_, HN.out.apart, HN.out.small⟩
      · have h := HN4.out
        rw [HCS.out, kept, if_pos rfl] at h
        have hx' : (vals L)[i]? = some (.agg (x.1.cells x.2)) := by rw [vals_get, HX.out]; rfl
        obtain ⟨hi', hx''⟩ := List.getElem?_eq_some_iff.1 hx'
        have e : (vals L).take i ++ ([Value.agg (x.1.cells x.2)] ++ (vals L).drop (i + 1)) = vals L := by
          rw [← hx'', List.singleton_append, ← List.drop_eq_getElem_cons hi', List.take_append_drop]
        rwa [e] at h
      · subst he; exact HN.out.chan_ne hy hk
    refine hn3.upd hU fun k hk he => ?_
    have := HN.out.lt hk
    omega
  · refine own_base (own_upd HO.out hU fun k hk he => ?_) _ fun k hk => ?_
    · have := (HO.out.lt k hk).1; omega
    · have := (HO.out.lt k hk).1; omega
  · exact HU.out.trans hU fun k hk h => by omega
end Go.Proofs.Ytnlidhclieipiaa
