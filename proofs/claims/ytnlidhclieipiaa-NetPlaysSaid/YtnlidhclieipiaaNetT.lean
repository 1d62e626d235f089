/-
  (*net.Net).Spoil, over a net that is told by its parcels.
-/
import Derived.Test.YtnlidhclieipiaaNetS
namespace Go.Proofs.Ytnlidhclieipiaa
open Go Go.RowKit

theorem vals_set (L : Pcls) (i : Nat) (y : Pcl × Value) (hi : i < L.length) : vals (L.set i y) = (vals L).take i ++ ([y.1.val y.2] ++ (vals L).drop (i + 1)) := by
  rw [List.set_eq_take_append_cons_drop, if_pos hi]
  simp [vals, List.map_take, List.map_drop]

/-- A net one of whose parcels was changed in its place. -/
theorem NetP.changed {w : World} {bn c : Nat} {L : Pcls} {lost : Int} (h : NetP w bn c L lost) {w' : World} {i : Nat} {x y : Pcl × Value} (hx : L[i]? = some x) (hy : y.2 = x.2) (hl : y.1.body.length = x.1.body.length)
    (hu : Upd (fun k => k = c ∨ x.2.ownBlock = some k) w w') (hn : NetV w' bn c ((vals L).take i ++ ([y.1.val y.2] ++ (vals L).drop (i + 1))) lost) (ho : w'.ownsRow 0 5 1 y.2 y.1.body.length (bytesV y.1.body)) : NetP w' bn c (L.set i y) lost := by
  obtain ⟨hi, hxi⟩ := List.getElem?_eq_some_iff.1 hx
  have hmem : x ∈ L := List.mem_of_getElem? hx
  have hget : ∀ j z, (L.set i y)[j]? = some z → (j = i ∧ z = y) ∨ (j ≠ i ∧ L[j]? = some z) := by
    intro j z hz
    rw [List.getElem?_set] at hz
    split at hz
    · rename_i e
      subst e
      exact .inl ⟨rfl, by simpa [hi] using hz.symm⟩
    · rename_i e
      exact .inr ⟨Ne.symm e, hz⟩
  have hap := List.pairwise_iff_getElem.1 h.apart
  have far : ∀ j z, j ≠ i → L[j]? = some z → ∀ k, z.2.ownBlock = some k → x.2.ownBlock ≠ some k := by
    intro j z hj hz k hk hk'
    obtain ⟨hj', hzj⟩ := List.getElem?_eq_some_iff.1 hz
    rcases Nat.lt_or_gt_of_ne hj with hlt | hlt
    · have := hap j i hj' hi hlt
      rw [hzj, hxi] at this
      exact this k hk hk'
    · have := hap i j hi hj' hlt
      rw [hzj, hxi] at this
      exact this k hk' hk
  refine ⟨by rw [vals_set L i y hi]; exact hn, by simpa using h.len, ?_, ?_, ?_⟩
  · intro z hz
    obtain ⟨j, hj⟩ := List.getElem?_of_mem hz
    rcases hget j z hj with ⟨rfl, rfl⟩ | ⟨hne, hz'⟩
    · exact ho
    · refine own_upd (h.own z (List.mem_of_getElem? hz')) hu fun k hk => ?_
      rintro (rfl | hk')
      · exact h.chan_ne (List.mem_of_getElem? hz') hk
      · exact far j z hne hz' k hk hk'
  · rw [List.pairwise_iff_getElem]
    intro a b ha hb hab k hk hk'
    have ea := hget a _ (List.getElem?_eq_getElem ha)
    have eb := hget b _ (List.getElem?_eq_getElem hb)
    rcases ea with ⟨rfl, ea⟩ | ⟨na, ea⟩ <;> rcases eb with ⟨rfl, eb⟩ | ⟨nb, eb⟩
    · omega
    · rw [ea, hy] at hk
      exact far b _ nb eb k hk' hk
    · rw [eb, hy] at hk'
      exact far a _ na ea k hk hk'
    · obtain ⟨ha', ea'⟩ := List.getElem?_eq_some_iff.1 ea
      obtain ⟨hb', eb'⟩ := List.getElem?_eq_some_iff.1 eb
      have := hap a b ha' hb' hab k
      rw [ea', eb'] at this
      exact this hk hk'
  · intro z hz
    obtain ⟨j, hj⟩ := List.getElem?_of_mem hz
    rcases hget j z hj with ⟨rfl, rfl⟩ | ⟨hne, hz'⟩
    · rw [hl]; exact h.small x hmem
    · exact h.small z (List.mem_of_getElem? hz')

theorem cf_spoil1 (args : Array Value) (w : World) : (callFunc 32 args).run Try.prog w = .ok (.enter 32 args) w := by kernel_rfl

/-- The world in which Spoil calls round. -/
def spoilW (w : World) (at_ : Int) (mask : UInt8) : World := ((w.alloc (.cells #[.int .i64 at_] 3)).alloc (.cells #[.int .u8 mask.toNat] 5)).alloc (.cells #[.int .i64 1] 29)
theorem spoilW_size (w : World) (at_ : Int) (mask : UInt8) : (spoilW w at_ mask).heap.size = w.heap.size + 3 := by simp [spoilW]
theorem spoilW_upd (w : World) (at_ : Int) (mask : UInt8) : Upd Nowhere w (spoilW w at_ mask) := (((Upd.refl _ _).alloc _).alloc _).alloc _
theorem spoilW_1 (w : World) (at_ : Int) (mask : UInt8) : Blk (spoilW w at_ mask) w.heap.size 3 #[.int .i64 at_] := ((Blk.new _ _ _).alloc _).alloc _
theorem spoilW_2 (w : World) (at_ : Int) (mask : UInt8) : Blk (spoilW w at_ mask) (w.heap.size + 1) 5 #[.int .u8 mask.toNat] := (Blk.new' _ _ _ (by simp)).alloc _
theorem spoilW_3 (w : World) (at_ : Int) (mask : UInt8) : Blk (spoilW w at_ mask) (w.heap.size + 2) 29 #[.int .i64 1] := Blk.new' _ _ _ (by simp)

section
variable (bn c : Nat) (L : Pcls) (lost : Int) (w : World)
set_option maxHeartbeats 1000000 in
theorem spoil_range (i at_ : Int) (mask : UInt8) (hnet : NetP w bn c L lost) (hi : i < 0 ∨ (L.length : Int) ≤ i) :
    Calls Try.prog 24 #[.pointer (some ⟨bn, 0, none⟩), .int .i64 i, .int .i64 at_, .int .u8 mask.toNat] w fun e w' => e = .returned (.int .i64 1) ∧ Upd Nowhere w w' := by
  have HN := Lib.hid (round_bad bn c (vals L) lost i (.func (.func 32) #[] #[.pointer (some ⟨w.heap.size, 0, none⟩), .pointer (some ⟨w.heap.size + 1, 0, none⟩), .pointer (some ⟨w.heap.size + 2, 0, none⟩)]) _ (hnet.upd (spoilW_upd w at_ mask) fun _ _ => id).net (by rw [vals_length]; exact hi))
  unfold spoilW at HN
  clear hi hnet
  go_enter Try.func24, Try.ntmps24
  go_wp2_with fail
  refine HN.out.mono ?_
  rintro e w1 ⟨rfl, rfl⟩
  go_wp2
  go_ret
  exact ⟨rfl, spoilW_upd w at_ mask⟩
end

/-- What the three ways of the function have in common, for round. -/
theorem spoil_round (bn c : Nat) (L : Pcls) (lost : Int) (w : World) (i : Nat) (x : Pcl × Value) (at_ : Int) (mask : UInt8) (hnet : NetP w bn c L lost) (hx : L[i]? = some x) (R : Bool → Array Value → World → World → Prop)
    (hdo : ∀ w1 q, w.heap.size ≤ q → q ≠ w.heap.size + 2 → q ≠ c → (∀ k, x.2.ownBlock = some k → k ≠ q) → SpoilAt w1 q w.heap.size (w.heap.size + 1) (w.heap.size + 2) x.1 x.2 at_ mask →
      Calls Try.prog 32 #[.pointer (some ⟨q, 0, none⟩), .pointer (some ⟨w.heap.size, 0, none⟩), .pointer (some ⟨w.heap.size + 1, 0, none⟩), .pointer (some ⟨w.heap.size + 2, 0, none⟩)] w1 fun e w2 =>
        ∃ stay cs', e = .returned (.bool stay) ∧ Blk w2 q 28 cs' ∧ IsPcl (.agg cs') ∧ Upd (fun k => (k = w.heap.size + 2 ∨ x.2.ownBlock = some k) ∨ k = q) w1 w2 ∧ R stay cs' w1 w2) :
    Calls Try.prog 27 #[.pointer (some ⟨bn, 0, none⟩), .int .i64 i, .func (.func 32) #[] #[.pointer (some ⟨w.heap.size, 0, none⟩), .pointer (some ⟨w.heap.size + 1, 0, none⟩), .pointer (some ⟨w.heap.size + 2, 0, none⟩)]] (spoilW w at_ mask) fun e w' =>
      ∃ stay cs w1 w2, e = .returned (.int .i64 0) ∧ Upd (· = c) (spoilW w at_ mask) w1 ∧ R stay cs w1 w2 ∧ Upd (· = c) w2 w' ∧ NetV w' bn c ((vals L).take i ++ (kept stay cs ++ (vals L).drop (i + 1))) lost := by
  have hmem : x ∈ L := List.mem_of_getElem? hx
  have hi : i < L.length := (List.getElem?_eq_some_iff.1 hx).1
  have hn := hnet.upd (spoilW_upd w at_ mask) fun _ _ => id
  have hc := hnet.lt (.inr (.inl rfl))
  have hb := hnet.lt (.inl rfl)
  refine round_ok bn c (vals L) lost i 32 _ (spoilW w at_ mask) hn.net (by rw [vals_length]; exact hi) (by rw [vals_length]; exact hnet.len) hn.form cf_spoil1
    (fun k => k = w.heap.size + 2 ∨ x.2.ownBlock = some k) (by rintro (h | h); omega; exact hnet.chan_ne hmem h) (by rintro (h | h); omega; exact hnet.blk_ne hmem h) R ?_
  intro w1 q cs hcs hu hq hbq
  rw [vals_get, hx] at hcs
  obtain rfl : x.1.cells x.2 = cs := by simpa [Pcl.val] using hcs
  rw [spoilW_size] at hq
  refine hdo w1 q (by omega) (by omega) (by omega) (fun k hk => ?_) ⟨hbq, (spoilW_1 w at_ mask).upd hu (by omega), (spoilW_2 w at_ mask).upd hu (by omega), (spoilW_3 w at_ mask).upd hu (by omega), ?_, hnet.small x hmem⟩
  · have := own_lt (hnet.own x hmem) hk
    omega
  · exact own_upd (hn.own x hmem) hu fun k hk he => by subst he; exact hnet.chan_ne hmem hk

/-- The whole of what Spoil has changed. -/
theorem spoil_upd {c : Nat} {v : Value} {w w1 w2 w3 : World} {at_ : Int} {mask : UInt8} (h1 : Upd (· = c) (spoilW w at_ mask) w1) (h2 : ∃ q, w.heap.size ≤ q ∧ Upd (fun k => (k = w.heap.size + 2 ∨ v.ownBlock = some k) ∨ k = q) w1 w2) (h3 : Upd (· = c) w2 w3) :
    Upd (fun k => k = c ∨ v.ownBlock = some k) w w3 := by
  obtain ⟨q, hq, h2⟩ := h2
  refine ((((spoilW_upd w at_ mask).mono fun _ _ h => h.elim).trans h1 fun k hk h => Or.inl h).trans h2 fun k hk h => ?_).trans h3 fun k hk h => Or.inl h
  rcases h with (h | h) | h
  · omega
  · exact Or.inr h
  · omega

section
variable (bn c : Nat) (L : Pcls) (lost : Int) (w : World) (i : Nat) (x : Pcl × Value)
theorem pcl_form {p : Pcl} {v : Value} {base : Nat} {e : TypeId} {n : Nat} {xs : List Value} {w : World} (h : w.ownsRow base e 1 v n xs) : IsPcl (.agg (p.cells v)) := by
  obtain ⟨A, k, rfl⟩ := own_form h
  exact ⟨_, _, A, _, k, _, rfl⟩

/-- Where round leaves the parcels as they were. -/
theorem spoil_same {w3 : World} (hnet : NetP w bn c L lost) (hx : L[i]? = some x) (hn : NetV w3 bn c ((vals L).take i ++ (kept true (x.1.cells x.2) ++ (vals L).drop (i + 1))) lost) (hu : Upd (· = c) w w3) : NetP w3 bn c L lost := by
  refine ⟨?_, hnet.len, fun y hy => own_upd (hnet.own y hy) hu fun k hk he => by subst he; exact hnet.chan_ne hy hk, hnet.apart, hnet.small⟩
  rw [kept, if_pos rfl] at hn
  have hx' : (vals L)[i]? = some (.agg (x.1.cells x.2)) := by rw [vals_get, hx]; rfl
  obtain ⟨hi', hx''⟩ := List.getElem?_eq_some_iff.1 hx'
  have e : (vals L).take i ++ ([Value.agg (x.1.cells x.2)] ++ (vals L).drop (i + 1)) = vals L := by
    rw [← hx'', List.singleton_append, ← List.drop_eq_getElem_cons hi', List.take_append_drop]
  rwa [e] at hn

set_option maxHeartbeats 1000000 in
theorem spoil_bad (at_ : Int) (mask : UInt8) (hnet : NetP w bn c L lost) (hx : L[i]? = some x) (hb : at_ < 0 ∨ (x.1.body.length : Int) ≤ at_ ∨ mask = 0) :
    Calls Try.prog 24 #[.pointer (some ⟨bn, 0, none⟩), .int .i64 i, .int .i64 at_, .int .u8 mask.toNat] w fun e w' => e = .returned (.int .i64 1) ∧ NetP w' bn c L lost ∧ Upd (· = c) w w' := by
  have hr := spoil_round bn c L lost w i x at_ mask hnet hx (fun stay cs w1 w2 => stay = true ∧ cs = x.1.cells x.2 ∧ Blk w2 (w.heap.size + 2) 29 #[.int .i64 1] ∧ Upd Nowhere w1 w2) (by
    intro w1 q _ _ _ _ hs
    refine (spoil1_bad q _ _ _ x.1 x.2 at_ mask w1 hs hb).mono ?_
    rintro e w2 ⟨rfl, hu⟩
    exact ⟨true, _, rfl, hs.box.upd hu id, pcl_form hs.own, hu.mono fun _ _ h => h.elim, rfl, rfl, hs.bad1.upd hu id, hu⟩)
  have HR := Lib.hid hr
  have HN := Lib.hid hnet
  have HX := Lib.hid hx
  have hc := hnet.lt (.inr (.inl rfl))
  unfold spoilW at HR
  clear hr hnet hx hb
  go_enter Try.func24, Try.ntmps24
  go_wp2_with fail
  refine HR.out.mono ?_
  rintro e w3 ⟨stay, cs, w1, w2, rfl, h1, ⟨rfl, rfl, hb, h2⟩, h3, h4⟩
  have hb3 := hb.upd h3 (by omega)
  have cb := hb3.cell
  have HU := Lib.hid ((((spoilW_upd w at_ mask).mono (G := (· = c)) fun _ _ h => h.elim).trans h1 fun _ _ h => h).trans h2 fun _ _ h => h.elim)
  have HU3 := Lib.hid h3
  have H4 := Lib.hid h4
  clear h1 h2 h3 h4 hb hb3
  go_wp2
  go_ret
  have hu := HU.out.trans HU3.out fun _ _ h => h
  exact ⟨rfl, spoil_same bn c L lost w i x HN.out HX.out H4.out hu, hu⟩

set_option maxHeartbeats 1000000 in
theorem spoil_state (k : Nat) (mask : UInt8) (hnet : NetP w bn c L lost) (hx : L[i]? = some x) (hk : k < x.1.body.length) (hm : mask ≠ 0) (hs : x.1.spoilt = true) :
    Calls Try.prog 24 #[.pointer (some ⟨bn, 0, none⟩), .int .i64 i, .int .i64 k, .int .u8 mask.toNat] w fun e w' => e = .returned (.int .i64 161) ∧ NetP w' bn c L lost ∧ Upd (· = c) w w' := by
  have hr := spoil_round bn c L lost w i x k mask hnet hx (fun stay cs w1 w2 => stay = true ∧ cs = x.1.cells x.2 ∧ Blk w2 (w.heap.size + 2) 29 #[.int .i64 161] ∧ Upd (· = w.heap.size + 2) w1 w2) (by
    intro w1 q _ hq _ _ hsa
    refine (spoil1_state q _ _ _ x.1 x.2 k mask w1 hsa hk hm hs).mono ?_
    rintro e w2 ⟨rfl, hb, hu⟩
    exact ⟨true, _, rfl, hsa.box.upd hu hq, pcl_form hsa.own, hu.mono fun _ _ h => .inl (.inl h), rfl, rfl, hb, hu⟩)
  have HR := Lib.hid hr
  have HN := Lib.hid hnet
  have HX := Lib.hid hx
  have hc := hnet.lt (.inr (.inl rfl))
  unfold spoilW at HR
  clear hr hnet hx hs hm
  go_enter Try.func24, Try.ntmps24
  go_wp2_with fail
  refine HR.out.mono ?_
  rintro e w3 ⟨stay, cs, w1, w2, rfl, h1, ⟨rfl, rfl, hb, h2⟩, h3, h4⟩
  have hb3 := hb.upd h3 (by omega)
  have cb := hb3.cell
  have HU := Lib.hid ((((spoilW_upd w k mask).mono (G := (· = c)) fun _ _ h => h.elim).trans h1 fun _ _ h => h).trans h2 fun _ _ h => by omega)
  have HU3 := Lib.hid h3
  have H4 := Lib.hid h4
  clear h1 h2 h3 h4 hb hb3
  go_wp2
  go_ret
  have hu := HU.out.trans HU3.out fun _ _ h => h
  exact ⟨rfl, spoil_same bn c L lost w i x HN.out HX.out H4.out hu, hu⟩

/-- The parcel, spoilt. -/
def Pcl.spoil (p : Pcl) (k : Nat) (b : UInt8) : Pcl := ⟨p.frm, p.dst, p.body.set k b, true⟩

set_option maxHeartbeats 1000000 in
theorem spoil_ok (k : Nat) (mask b : UInt8) (hnet : NetP w bn c L lost) (hx : L[i]? = some x) (hk : x.1.body[k]? = some b) (hm : mask ≠ 0) (hs : x.1.spoilt = false) :
    Calls Try.prog 24 #[.pointer (some ⟨bn, 0, none⟩), .int .i64 i, .int .i64 k, .int .u8 mask.toNat] w fun e w' => e = .returned (.int .i64 0) ∧
      NetP w' bn c (L.set i (x.1.spoil k (b ^^^ mask), x.2)) lost ∧ Upd (fun k => k = c ∨ x.2.ownBlock = some k) w w' := by
  have hmem : x ∈ L := List.mem_of_getElem? hx
  have hr := spoil_round bn c L lost w i x k mask hnet hx (fun stay cs w1 w2 => stay = true ∧ cs = (x.1.spoil k (b ^^^ mask)).cells x.2 ∧ Blk w2 (w.heap.size + 2) 29 #[.int .i64 0] ∧
      w2.ownsRow 0 5 1 x.2 x.1.body.length (bytesV (x.1.body.set k (b ^^^ mask))) ∧ ∃ q, w.heap.size ≤ q ∧ Upd (fun k => (k = w.heap.size + 2 ∨ x.2.ownBlock = some k) ∨ k = q) w1 w2) (by
    intro w1 q hq0 hq _ _ hsa
    refine (spoil1_ok q _ _ _ x.1 x.2 k mask b w1 hsa hk hm hs hq).mono ?_
    rintro e w2 ⟨rfl, hb, hbq, ho, hu⟩
    have hu' : Upd (fun k => (k = w.heap.size + 2 ∨ x.2.ownBlock = some k) ∨ k = q) w1 w2 := hu.mono fun j _ h => by
      rcases h with h | h | h
      · exact .inl (.inl h)
      · exact .inr h
      · exact .inl (.inr h)
    exact ⟨true, _, rfl, hbq, pcl_form ho, hu', rfl, rfl, hb, ho, q, hq0, hu'⟩)
  have HR := Lib.hid hr
  have HN := Lib.hid hnet
  have HX := Lib.hid hx
  have hc := hnet.lt (.inr (.inl rfl))
  unfold spoilW at HR
  clear hr hnet hx hs hm hk
  go_enter Try.func24, Try.ntmps24
  go_wp2_with fail
  refine HR.out.mono ?_
  rintro e w3 ⟨stay, cs, w1, w2, rfl, h1, ⟨rfl, rfl, hb, ho, h2⟩, h3, h4⟩
  have hb3 := hb.upd h3 (by omega)
  have cb := hb3.cell
  have HU := Lib.hid (spoil_upd h1 h2 h3)
  have HO := Lib.hid (own_upd ho h3 fun k hk he => by subst he; exact HN.out.chan_ne hmem hk)
  have H4 := Lib.hid h4
  clear h1 h2 h3 h4 hb hb3 ho
  go_wp2
  go_ret
  exact ⟨rfl, HN.out.changed HX.out rfl (by simp [Pcl.spoil]) HU.out (by simpa [kept, Pcl.val] using H4.out) (by simpa [Pcl.spoil] using HO.out), HU.out⟩
end
end Go.Proofs.Ytnlidhclieipiaa
