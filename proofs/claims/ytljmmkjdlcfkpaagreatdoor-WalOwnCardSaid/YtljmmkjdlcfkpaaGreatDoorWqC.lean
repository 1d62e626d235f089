/-
  Layer 7: rows, dirty pages, deeds may be.
-/
import Derived.Test.YtljmmkjdlcfkpaaGreatDoorWqB
import Derived.Test.YtljmmkjdlcfkpaaGreatDoorWbUD
import Derived.Test.YtljmmkjdlcfkpaaGreatDoorWbUE
import Derived.Test.YtljmmkjdlcfkpaaGreatDoorWbUR
namespace Go.Proofs.YtljmmkjdlcfkpaaGreatDoor
open Go Go.RowKit

set_option maxRecDepth 100000 in
set_option maxHeartbeats 2000000 in
theorem rowless_ok (x y : RowW) (w : World) : Calls Tryz.prog 143 #[elemR x, elemR y] w (BoolP (RowP.less x.p y.p) w) := by
  have HU := Lib.hid (((Upd.refl Nowhere w).alloc (.cells #[.int .i64 x.p.tx, .int .i64 x.p.state, .int .i64 x.p.first, .int .i64 x.p.last, .int .i64 x.p.undo, .int .i64 x.p.coord, .slice x.mem.1 x.mem.2.1 x.mem.2.2, .slice x.loc.1 x.loc.2.1 x.loc.2.2] 105)).alloc (.cells #[.int .i64 y.p.tx, .int .i64 y.p.state, .int .i64 y.p.first, .int .i64 y.p.last, .int .i64 y.p.undo, .int .i64 y.p.coord, .slice y.mem.1 y.mem.2.1 y.mem.2.2, .slice y.loc.1 y.loc.2.1 y.loc.2.2] 105))
  unfold elemR
  by_cases h : x.p.tx < y.p.tx <;>
    (go_enter Tryz.func143, Tryz.ntmps143
     go_wp2_with fail
     go_ret
     exact ⟨by simp [RowP.less, ltP, h], HU.out⟩)
set_option maxRecDepth 100000 in
set_option maxHeartbeats 2000000 in
theorem dirless_ok (x y : Int × Int) (w : World) : Calls Tryz.prog 146 #[elemD x, elemD y] w (BoolP (dirLess x y) w) := by
  have HU := Lib.hid (((Upd.refl Nowhere w).alloc (.cells #[.int .i64 x.1, .int .i64 x.2] 154)).alloc (.cells #[.int .i64 y.1, .int .i64 y.2] 154))
  unfold elemD
  by_cases h : x.1 < y.1 <;>
    (go_enter Tryz.func146, Tryz.ntmps146
     go_wp2_with fail
     go_ret
     exact ⟨by simp [dirLess, ltP, h], HU.out⟩)
set_option maxRecDepth 100000 in
set_option maxHeartbeats 2000000 in
theorem deeless_ok (x y : DeedV) (w : World) : Calls Tryz.prog 149 #[elemE x, elemE y] w (BoolP (deeLess x.p y.p) w) := by
  have HU := Lib.hid (((Upd.refl Nowhere w).alloc (.cells #[.int .i64 x.p.1, .slice x.mem.1 x.mem.2.1 x.mem.2.2] 107)).alloc (.cells #[.int .i64 y.p.1, .slice y.mem.1 y.mem.2.1 y.mem.2.2] 107))
  unfold elemE
  by_cases h : x.p.1 < y.p.1 <;>
    (go_enter Tryz.func149, Tryz.ntmps149
     go_wp2_with fail
     go_ret
     exact ⟨by simp [deeLess, ltP, h], HU.out⟩)
set_option maxRecDepth 100000 in
set_option maxHeartbeats 2000000 in
theorem dirmay_ok (x : Int × Int) (w : World) : Calls Tryz.prog 145 #[elemD x] w (BoolP (dirMay x) w) := by
  have HU := Lib.hid ((Upd.refl Nowhere w).alloc (.cells #[.int .i64 x.1, .int .i64 x.2] 154))
  have HC := Lib.hid (seq_ok x.2 1 (w.alloc (.cells #[.int .i64 x.1, .int .i64 x.2] 154)))
  unfold elemD
  by_cases h0 : 0 ≤ x.1
  · by_cases h1 : x.1 < 64
    · go_enter Tryz.func145, Tryz.ntmps145
      go_wp2_with fail
      refine HC.out.mono ?_
      rintro e w2 ⟨rfl, hU2⟩
      have HU2 := Lib.hid (HU.out.same hU2)
      clear hU2
      go_wp2_with fail
      go_ret
      exact ⟨by simp [dirMay, h0, h1], HU2.out⟩
    · go_enter Tryz.func145, Tryz.ntmps145
      go_wp2_with fail
      go_ret
      exact ⟨by simp only [dirMay]; rw [decide_eq_false (by omega : ¬ x.1 < 64)]; simp, HU.out⟩
  · go_enter Tryz.func145, Tryz.ntmps145
    go_wp2_with fail
    go_ret
    exact ⟨by simp only [dirMay]; rw [decide_eq_false (by omega : ¬ 0 ≤ x.1)]; simp, HU.out⟩
set_option maxRecDepth 100000 in
set_option maxHeartbeats 2000000 in
theorem pasmay_ok (n : Int) (w : World) : Calls Tryz.prog 151 #[.int .i64 n] w (BoolP (pasMay n) w) := by
  have HC := Lib.hid (seq_ok n 1 w)
  go_enter Tryz.func151, Tryz.ntmps151
  go_wp2_with fail
  refine HC.out.mono ?_
  rintro e w2 ⟨rfl, hU2⟩
  have HU2 := Lib.hid hU2
  clear hU2
  go_wp2_with fail
  go_ret
  exact ⟨rfl, HU2.out⟩
set_option maxRecDepth 100000 in
set_option maxHeartbeats 2000000 in
theorem deemay_ok (x : DeedV) {w0 w : World} (hu : Upd Nowhere w0 w) (hE : Els 1 intC w0 (slV x.mem) x.p.2) (hn : x.p.2.length ≤ 90000) : Calls Tryz.prog 148 #[elemE x] w (BoolP (deeMay x.p) w) := by
  have hU := (Upd.refl Nowhere w).alloc (.cells #[.int .i64 x.p.1, .slice x.mem.1 x.mem.2.1 x.mem.2.2] 107)
  have hB := Blk.new w 107 #[.int .i64 x.p.1, .slice x.mem.1 x.mem.2.1 x.mem.2.2]
  have hm : ∀ w', Upd Nowhere w w' → Calls Tryz.prog 108 #[.slice x.mem.1 x.mem.2.1 x.mem.2.2] w' (BoolP (membersP x.p.2) w') := fun w' h' => members_ok (hE.upd (hu.same h') fun _ _ => id) hn
  have HC := Lib.hid (seq_ok x.p.1 1 (w.alloc (.cells #[.int .i64 x.p.1, .slice x.mem.1 x.mem.2.1 x.mem.2.2] 107)))
  have HU := Lib.hid hU
  have HB := Lib.hid hB
  have HM := Lib.hid hm
  clear hU hB hm hE hu
  unfold elemE
  go_enter Tryz.func148, Tryz.ntmps148
  go_wp2_with fail
  refine HC.out.mono ?_
  rintro e w2 ⟨rfl, hU2⟩
  have b1 := (HB.out.upd hU2 id).cell 1
  simp only [List.getElem?_toArray, List.getElem?_cons_zero, List.getElem?_cons_succ] at b1
  have HU2 := Lib.hid (HU.out.same hU2)
  clear hU2
  cases hs : seqP x.p.1 1 with
  | false =>
    go_wp2_with fail
    go_ret
    exact ⟨by simp [deeMay, hs], HU2.out⟩
  | true =>
    have HS := Lib.hid hs
    clear hs
    go_wp2_with fail
    refine (HM.out w2 HU2.out).mono ?_
    rintro e w3 ⟨rfl, hU3⟩
    have HU3 := Lib.hid (HU2.out.same hU3)
    clear hU3
    go_wp2_with fail
    go_ret
    exact ⟨by simp [deeMay, HS.out], HU3.out⟩
end Go.Proofs.YtljmmkjdlcfkpaaGreatDoor
