/-
  trothref07.Great: what it lets pass is of moderate size.
-/
import Derived.Test.YtljmmkjdlcfkpaaGreatDoorWqH
import Derived.Deep.DeepCutAuto
namespace Go.Proofs.YtljmmkjdlcfkpaaGreatDoor
open Go Go.RowKit

structure RecP.tame (x : RecP) : Prop where
  ml : x.mem.length ≤ 20
  ll : x.loc.length ≤ 80
  rl : x.row.length ≤ 70
  dl : x.dir.length ≤ 80
  el : x.dee.length ≤ 80
  pl : x.pas.length ≤ 300
  rb : ∀ r ∈ x.row, r.mem.length ≤ 20 ∧ r.loc.length ≤ 80
  eb : ∀ d ∈ x.dee, d.2.length ≤ 20
theorem RecP.tame.mild {x : RecP} (h : x.tame) : x.mild :=
  ⟨by have := h.ml; omega, by have := h.ll; omega, by have := h.rl; omega, fun r hr => by have := h.rb r hr; omega, by have := h.dl; omega, by have := h.el; omega, fun d hd => by have := h.eb d hd; omega, by have := h.pl; omega⟩
def GreatP (x : RecP) (w : World) (e : Ending) (w' : World) : Prop := ∃ b, e = .returned (.bool b) ∧ (b = false → x.tame) ∧ Upd Nowhere w w'
set_option maxRecDepth 100000 in
set_option maxHeartbeats 4000000 in
theorem great_ok (x : RecP) (s : Sls) (w : World) (hE : RecE w x s) : Calls Tryz.prog 15 #[.agg (x.rv s).cells.toArray] w (GreatP x w) := by
  obtain ⟨rs, hr1, hr2, hr3⟩ := hE.row
  obtain ⟨ds, he1, he2, he3⟩ := hE.dee
  have l1 := hE.mem.len
  have l2 := hE.loc.len
  have l3 := hr1.len
  have l4 := hE.dir.len
  have l5 := he1.len
  have l6 := hE.pas.len
  have hl := hE.loc
  have hrl : x.row.length = rs.length := by rw [← hr2, List.length_map]
  have hel : x.dee.length = ds.length := by rw [← he2, List.length_map]
  have htame : s.mem.2.1 ≤ 20 → s.loc.2.1 ≤ 80 → s.row.2.1 ≤ 70 → s.dir.2.1 ≤ 80 → s.dee.2.1 ≤ 80 → s.pas.2.1 ≤ 300 → (∀ q ∈ rs, q.mem.2.1 ≤ 20 ∧ q.loc.2.1 ≤ 80) → (∀ q ∈ ds, q.mem.2.1 ≤ 20) → x.tame := fun h1 h2 h3 h4 h5 h6 h7 h8 =>
    ⟨by omega, by omega, by omega, by omega, by omega, by omega, fun r hr => by
      rw [← hr2] at hr
      obtain ⟨q, hq, rfl⟩ := List.mem_map.1 hr
      have a1 := (hr3 q hq).1.len
      have a2 := (hr3 q hq).2.len
      have := h7 q hq
      omega, fun d hd => by
      rw [← he2] at hd
      obtain ⟨q, hq, rfl⟩ := List.mem_map.1 hd
      have a1 := (he3 q hq).len
      have := h8 q hq
      omega⟩
  have HT := Lib.hid htame
  have HL := Lib.hid hl
  have HR := Lib.hid hr1
  have HE := Lib.hid he1
  have L2 := Lib.hid l2
  have L3 := Lib.hid l3
  have L5 := Lib.hid l5
  clear hr1 hr2 hr3 he1 he2 he3 l1 l2 l3 l4 l5 l6 hl hrl hel htame hE
  obtain ⟨kind, tx, prev, next, key, oh, od, nh, nd, coord, mem, loc, row, dir, dee, pas⟩ := x
  obtain ⟨⟨a1, n1, c1⟩, ⟨a2, n2, c2⟩, ⟨a3, n3, c3⟩, ⟨a4, n4, c4⟩, ⟨a5, n5, c5⟩, ⟨a6, n6, c6⟩⟩ := s
  simp only at HT HL HR HE L2 L3 L5
  generalize hX : RecP.mk kind tx prev next key oh od nh nd coord mem loc row dir dee pas = X at HT ⊢
  have hsh : (RecP.rv X ⟨(a1, n1, c1), (a2, n2, c2), (a3, n3, c3), (a4, n4, c4), (a5, n5, c5), (a6, n6, c6)⟩).cells.toArray = #[.int .i64 kind, .int .i64 tx, .int .i64 prev, .int .i64 next, strV key, .bool oh, strV od, .bool nh, strV nd, .int .i64 coord, .slice a1 n1 c1, .slice a2 n2 c2, .slice a3 n3 c3, .slice a4 n4 c4, .slice a5 n5 c5, .slice a6 n6 c6] := by
    subst hX
    rfl
  rw [hsh]
  clear hsh hX
  go_enter Tryz.func15, Tryz.ntmps15
  go_upto_region 1 with (fail)
  have hb := Blk.new w 38 #[.int .i64 kind, .int .i64 tx, .int .i64 prev, .int .i64 next, strV key, .bool oh, strV od, .bool nh, strV nd, .int .i64 coord, .slice a1 n1 c1, .slice a2 n2 c2, .slice a3 n3 c3, .slice a4 n4 c4, .slice a5 n5 c5, .slice a6 n6 c6]
  have hu := (Upd.refl Nowhere w).alloc (.cells #[.int .i64 kind, .int .i64 tx, .int .i64 prev, .int .i64 next, strV key, .bool oh, strV od, .bool nh, strV nd, .int .i64 coord, .slice a1 n1 c1, .slice a2 n2 c2, .slice a3 n3 c3, .slice a4 n4 c4, .slice a5 n5 c5, .slice a6 n6 c6] 38)
  generalize w.alloc (.cells #[.int .i64 kind, .int .i64 tx, .int .i64 prev, .int .i64 next, strV key, .bool oh, strV od, .bool nh, strV nd, .int .i64 coord, .slice a1 n1 c1, .slice a2 n2 c2, .slice a3 n3 c3, .slice a4 n4 c4, .slice a5 n5 c5, .slice a6 n6 c6] 38) = w1 at hb hu ⊢
  generalize w.heap.size = g at hb ⊢
  have HU := Lib.hid hu
  have HL := Lib.hid (HL.out.up hu)
  have HR := Lib.hid (HR.out.up hu)
  have HE := Lib.hid (HE.out.up hu)
  obtain ⟨b0, b1, b2, b3, b4, b5, b6, b7, b8, b9, b10, b11, b12, b13, b14, b15⟩ := hb.all16
  clear hb hu
  go_wp2
  all_goals first | (go_ret; exact ⟨_, rfl, fun h => (by cases h), HU.out⟩) | skip
  have i1 : n1 ≤ 20 := by omega
  have i2 : n2 ≤ 80 := by omega
  have i3 : n3 ≤ 70 := by omega
  have i4 : n4 ≤ 80 := by omega
  have i5 : n5 ≤ 80 := by omega
  have i6 : n6 ≤ 300 := by omega
  go_loopw [3] (fun t wr => ∃ k : Nat, k ≤ n2 ∧ t = .int .i64 k ∧ w1 = wr) (fun t _ => n2 - (intOf t).toNat)
  case atStart => exact ⟨0, Nat.zero_le _, rfl, rfl⟩
  case round =>
    obtain ⟨k, hk, rfl, rfl⟩ := hrel
    by_cases hlt : k < n2
    · obtain ⟨y, hy⟩ : ∃ y, loc[k]? = some y := ⟨_, List.getElem?_eq_getElem (by rw [← L2.out]; exact hlt)⟩
      obtain ⟨bb, off, cc, e, hbb, hc⟩ := HL.out.get (fun _ => rfl) hy
      cases e
      have u0 := hc 0 (by omega)
      simp only [lockC, List.getElem?_cons_zero, Nat.add_zero] at u0
      clear hc hbb hy
      go_wp2
      all_goals first
        | (go_ret; exact ⟨_, rfl, fun h => (by cases h), HU.out⟩)
        | (go_roundw
           case rel => exact ⟨k + 1, by omega, by go_num, by first | rfl | trivial⟩
           case measure => simp [intOf]; omega)
    · go_wp2
      go_loopw [4] (fun t wr => ∃ k : Nat, k ≤ n3 ∧ t = .int .i64 k ∧ w1 = wr ∧ (∀ q ∈ rs.take k, q.mem.2.1 ≤ 20 ∧ q.loc.2.1 ≤ 80)) (fun t _ => n3 - (intOf t).toNat)
      case atStart => exact ⟨0, Nat.zero_le _, rfl, rfl, fun q hq => by simp at hq⟩
      case round =>
        obtain ⟨k, hk, rfl, rfl, hq⟩ := hrel
        have HQ := Lib.hid hq
        clear hq
        by_cases hlt : k < n3
        · obtain ⟨y, hy⟩ : ∃ y, rs[k]? = some y := ⟨_, List.getElem?_eq_getElem (by rw [← L3.out]; exact hlt)⟩
          have htk : ∀ q ∈ rs.take (k + 1), q ∈ rs.take k ∨ q = y := fun q h => by
            rw [List.take_add_one, hy, List.mem_append] at h
            rcases h with h | h
            · exact .inl h
            · simp at h; exact .inr h
          obtain ⟨bb, off, cc, e, hbb, hc⟩ := HR.out.get (fun _ => rfl) hy
          cases e
          obtain ⟨yp, ⟨ya1, yn1, yc1⟩, ⟨ya2, yn2, yc2⟩⟩ := y
          have u6 := hc 6 (by omega)
          have u7 := hc 7 (by omega)
          simp only [RowW.cells, slV, List.getElem?_cons_zero, List.getElem?_cons_succ] at u6 u7
          have HTK := Lib.hid htk
          clear hc hbb hy htk
          go_wp2
          all_goals first
            | (go_ret; exact ⟨_, rfl, fun h => (by cases h), HU.out⟩)
            | (go_roundw
               case rel =>
                 refine ⟨k + 1, by omega, by go_num, by first | rfl | trivial, fun q hq => ?_⟩
                 rcases HTK.out q hq with h | rfl
                 · exact HQ.out q h
                 · constructor <;> simp only <;> omega
               case measure => simp [intOf]; omega)
        · have hall : ∀ q ∈ rs, q.mem.2.1 ≤ 20 ∧ q.loc.2.1 ≤ 80 := fun q h => HQ.out q (by rw [List.take_of_length_le (by have := L3.out; omega)]; exact h)
          have HALL := Lib.hid hall
          clear hall HQ
          go_wp2
          go_loopw [5] (fun t wr => ∃ k : Nat, k ≤ n5 ∧ t = .int .i64 k ∧ w1 = wr ∧ (∀ q ∈ ds.take k, q.mem.2.1 ≤ 20)) (fun t _ => n5 - (intOf t).toNat)
          case atStart => exact ⟨0, Nat.zero_le _, rfl, rfl, fun q hq => by simp at hq⟩
          case round =>
            obtain ⟨k, hk, rfl, rfl, hq⟩ := hrel
            have HQ := Lib.hid hq
            clear hq
            by_cases hlt : k < n5
            · obtain ⟨y, hy⟩ : ∃ y, ds[k]? = some y := ⟨_, List.getElem?_eq_getElem (by rw [← L5.out]; exact hlt)⟩
              have htk : ∀ q ∈ ds.take (k + 1), q ∈ ds.take k ∨ q = y := fun q h => by
                rw [List.take_add_one, hy, List.mem_append] at h
                rcases h with h | h
                · exact .inl h
                · simp at h; exact .inr h
              obtain ⟨bb, off, cc, e, hbb, hc⟩ := HE.out.get (fun _ => rfl) hy
              cases e
              obtain ⟨yp, ⟨ya1, yn1, yc1⟩⟩ := y
              have u1 := hc 1 (by omega)
              simp only [DeedV.cells, slV, List.getElem?_cons_zero, List.getElem?_cons_succ] at u1
              have HTK := Lib.hid htk
              clear hc hbb hy htk
              go_wp2
              all_goals first
                | (go_ret; exact ⟨_, rfl, fun h => (by cases h), HU.out⟩)
                | (go_roundw
                   case rel =>
                     refine ⟨k + 1, by omega, by go_num, by first | rfl | trivial, fun q hq => ?_⟩
                     rcases HTK.out q hq with h | rfl
                     · exact HQ.out q h
                     · simp only; omega
                   case measure => simp [intOf]; omega)
            · have hall : ∀ q ∈ ds, q.mem.2.1 ≤ 20 := fun q h => HQ.out q (by rw [List.take_of_length_le (by have := L5.out; omega)]; exact h)
              have HALL2 := Lib.hid hall
              clear hall HQ
              go_wp2
              go_ret
              exact ⟨_, rfl, fun _ => HT.out i1 i2 i3 i4 i5 i6 HALL.out HALL2.out, HU.out⟩
end Go.Proofs.YtljmmkjdlcfkpaaGreatDoor
