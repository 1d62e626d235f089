/-
  History: the program's works: the iterator's contract.
-/
import Derived.Test.YtddknmgajacofaaHistJ
import Derived.Test.YtddknmgajacofaaHistI
import Derived.RangeFuncNested
import Derived.RangeFuncBound
import Derived.RangeFuncCalls
import Derived.RangeFuncLeaves
import Derived.Shelf.Abstract
import Derived.Shelf.RegionOpen
import Derived.OwnWalkIn
import Derived.TacticsInMore
import Derived.LoopNIn
import Derived.LoopIn
namespace Go.Proofs.Ytddknmgajacofaa
open Go Go.RowKit Go.Shelf
attribute [local go_sem] Oper.semAt_some

abbrev EvD.arr (e : EvD) : Array Value := #[.int .i64 e.kind, .int .i64 e.tx, .string e.key, .bool e.has, .string e.data]
/-- The events that count, among the first n. -/
def wksN (l : List EvD) : Nat → List EvD
  | 0 => []
  | n + 1 => match l[n]? with
    | some e => if wkOf l e n = true then wksN l n ++ [e] else wksN l n
    | none => wksN l n
theorem wksN_len (l : List EvD) : ∀ n, (wksN l n).length ≤ n
  | 0 => Nat.le_refl _
  | n + 1 => by
    have := wksN_len l n
    simp only [wksN]
    split
    · split
      · simp; omega
      · omega
    · omega
theorem wksN_hit {l : List EvD} {n : Nat} {e : EvD} (h : l[n]? = some e) (h2 : wkOf l e n = true) : wksN l (n + 1) = wksN l n ++ [e] := by simp [wksN, h, h2]
theorem wksN_miss {l : List EvD} {n : Nat} {e : EvD} (h : l[n]? = some e) (h2 : wkOf l e n = false) : wksN l (n + 1) = wksN l n := by simp [wksN, h, h2]
/-- A transaction's works are its own among all. -/
theorem txW_filter (l : List EvD) (t : Int) : ∀ n, txW l t n = (wksN l n).filter (fun e => decide (e.tx = t))
  | 0 => rfl
  | n + 1 => by
    have ih := txW_filter l t n
    cases h : l[n]? with
    | none => simp only [txW, wksN, h]; exact ih
    | some e =>
      cases hw : wkOf l e n with
      | false => rw [wksN_miss h hw, txW_miss h (by simp [hw])]; exact ih
      | true =>
        rw [wksN_hit h hw, List.filter_append, ← ih]
        by_cases ht : e.tx = t
        · rw [txW_hit h ht hw]; simp [ht]
        · rw [txW_miss h (fun x => ht x.1)]; simp [ht]
theorem wkOf_at (l : List EvD) (e : EvD) (i : Nat) : wkOf l e i = ((decide (e.kind = 1) || decide (e.kind = 2)) && match atN l l.length e.tx with | some j => decide (i < j) | none => false) := by
  unfold wkOf
  rw [atN_first]
  by_cases h : firstE l e.tx 3 < firstE l e.tx 4
  · simp [h]
  · simp [h]

set_option maxHeartbeats 2000000 in
theorem works_ok {w : World} {v : Value} {l : List EvD} (h : EvsE w v l) (hl : l.length ≤ 1000) : Calls Try.prog 29 #[v] w fun r w' => ∃ b1 b3 bm, r = .returned (.func (.func 45) #[] #[.pointer (some ⟨b1, 0, none⟩), .pointer (some ⟨b3, 0, none⟩)]) ∧
    Blk w' b1 22 #[v] ∧ Blk w' b3 47 #[.map (some bm)] ∧ MapIs encI w' bm (atF l l.length) ∧ w.heap.size ≤ b1 ∧ w.heap.size ≤ b3 ∧ w.heap.size ≤ bm ∧ Upd Nowhere w w' := by
  obtain ⟨A, c, rfl, hc⟩ := h.val
  have hb0 := Blk.new w 22 #[.slice A l.length c]
  have c0 := hb0.cell
  have H1 := Lib.hid (h.alloc (.cells #[.slice A l.length c] 22))
  have HU := Lib.hid ((Upd.refl Nowhere w).alloc (.cells #[.slice A l.length c] 22))
  have HB := Lib.hid hb0
  go_enter Try.func29, Try.ntmps29
  go_wp2_with fail
  refine (commits_ok H1.out hl).mono ?_
  rintro r w2 ⟨bm, v', rfl, hbm, hm, ho, hu⟩
  have HB2 := Lib.hid (HB.out.upd hu id)
  have HM := Lib.hid hm
  have HU2 := Lib.hid (HU.out.trans hu fun _ _ => id)
  have HBM := Lib.hid hbm
  clear hm hu hbm ho
  go_wp2_with fail
  go_ret
  refine ⟨_, _, bm, rfl, HB2.out.alloc _, Blk.new _ _ _, HM.out.alloc _, Nat.le_refl _, HU2.out.size, by have := HBM.out; simp at this; omega, HU2.out.alloc _⟩

set_option maxHeartbeats 4000000 in
set_option maxRecDepth 100000 in
/-- The iterator: each event that counts comes, in their order, whatever the body does, so long as it leaves the table and the list alone. -/
theorem wks_stops {F : Nat → Prop} {w : World} {v : Value} {l : List EvD} (h : EvsE w v l) (hl : l.length ≤ 1000) (hF : l ≠ [] → ∀ k, v.ownBlock = some k → ¬ F k) {b1 b3 bm : Nat} (h1 : Blk w b1 22 #[v]) (h3 : Blk w b3 47 #[.map (some bm)]) (hm : MapIs encI w bm (atF l l.length))
    (n3 : ¬ F b3) (nm : ¬ F bm) (n : Nat) (hn : 1 ≤ n) :
    SeqStopsK Fence.wide n Try.prog 45 #[.pointer (some ⟨b1, 0, none⟩), .pointer (some ⟨b3, 0, none⟩)] (fun e : EvD => #[.agg e.arr]) (Upd F) (fun xs => xs = wksN l l.length) (fun _ => True) l.length w := by
  intro ll J Jx W hW hJ hJx hY h0
  obtain ⟨A, c, rfl, hc⟩ := h.val
  have H := Lib.hid (h.below hW)
  have H1 := Lib.hid (h1.below hW h1.lt)
  have H3 := Lib.hid (h3.below hW h3.lt)
  have HM := Lib.hid (hm.of_block (hW.block _ hm.lt))
  have c1 := H1.out.cell
  clear h h1 h3 hm hW
  refine callsIn_of_wp Try.func45 rfl trivial ?_ rfl
  simp only [Try.ntmps45, List.size_toArray, List.length_cons, List.length_nil, Nat.reduceAdd, Nat.reduceSub, Array.replicate_succ, Array.replicate_zero, List.push_toArray, List.append_toArray, List.nil_append, List.cons_append]
  gi_wp2
  gi_loopw [10] (fun t wr => ∃ k : Nat, k ≤ l.length ∧ t = .int .i64 k ∧ J (wksN l k) wr ∧ Upd F W wr) (fun t _ => l.length - (intOf t).toNat)
  case atStart => exact ⟨0, by omega, rfl, h0, Upd.refl _ _⟩
  case round =>
    obtain ⟨k, hk, rfl, hj, hu⟩ := hrel
    by_cases hlt : k < l.length
    · obtain ⟨⟨kd, tx, key, has, data⟩, he⟩ : ∃ e, l[k]? = some e := ⟨_, List.getElem?_eq_getElem hlt⟩
      obtain ⟨b, off, c', hE, hb, q0, q1, q2, q3, q4⟩ := event_at (H.out.upd hu (hF (fun e => by subst e; simp at he))) he
      cases hE
      have hi : (k : Int) < (l.length : Nat) := by omega
      have hb0 := Blk.new wr 41 #[.int .i64 kd, .int .i64 tx, .string key, .bool has, .string data]
      have cb := hb0.cell
      have c3 := ((H3.out.upd hu n3).alloc (.cells #[.int .i64 kd, .int .i64 tx, .string key, .bool has, .string data] 41)).cell
      have HM2 := Lib.hid ((HM.out.upd hu nm).alloc (.cells #[.int .i64 kd, .int .i64 tx, .string key, .bool has, .string data] 41))
      have HJ2 := Lib.hid (hJ _ _ _ none hj (World.grownBy_alloc wr (.cells #[.int .i64 kd, .int .i64 tx, .string key, .bool has, .string data] 41) none) (fun _ h => by cases h))
      have HU2 := Lib.hid (hu.alloc (.cells #[.int .i64 kd, .int .i64 tx, .string key, .bool has, .string data] 41))
      have HE := Lib.hid he
      clear hb0 hu he hj
      cases hat : atN l l.length tx with
      | none =>
        have hl1 : (Instr.lookup 47 (.map (some bm)) (.int .i64 tx) true).run Try.prog (wr.alloc (.cells #[.int .i64 kd, .int .i64 tx, .string key, .bool has, .string data] 41)) = .ok (.tuple #[.int .i64 0, .bool false]) (wr.alloc (.cells #[.int .i64 kd, .int .i64 tx, .string key, .bool has, .string data] 41)) := by
          simpa [atF, hat] using HM2.out.look KI Try.underlying47 Try.underlying3 (Try.zeroValue3 _) tx true
        have HW : Hid (wkOf l ⟨kd, tx, key, has, data⟩ k = false) := Lib.hid (by rw [wkOf_at, show atN l l.length (EvD.mk kd tx key has data).tx = none from hat]; simp)
        clear hat
        gi_wp2
        go_roundw
        case rel => exact ⟨k + 1, by omega, by go_num, by rw [wksN_miss HE.out HW.out]; exact HJ2.out, HU2.out⟩
        case measure => simp [intOf]; omega
      | some j =>
        have hl1 : (Instr.lookup 47 (.map (some bm)) (.int .i64 tx) true).run Try.prog (wr.alloc (.cells #[.int .i64 kd, .int .i64 tx, .string key, .bool has, .string data] 41)) = .ok (.tuple #[.int .i64 (j : Nat), .bool true]) (wr.alloc (.cells #[.int .i64 kd, .int .i64 tx, .string key, .bool has, .string data] 41)) := by
          simpa [atF, hat] using HM2.out.look KI Try.underlying47 Try.underlying3 (Try.zeroValue3 _) tx true
        have HAT := Lib.hid hat
        clear hat
        by_cases hkj : k < j
        · have hkj' : ¬ j ≤ k := by omega
          by_cases h1 : kd = 1
          · have HW : Hid (wkOf l ⟨kd, tx, key, has, data⟩ k = true) := Lib.hid (by rw [wkOf_at, show atN l l.length (EvD.mk kd tx key has data).tx = some j from HAT.out]; simp [h1, hkj])
            subst h1
            obtain ⟨fn, tmps, assign, body, hy, hR⟩ := hY _ ⟨1, tx, key, has, data⟩ _ HJ2.out (by have := wksN_len l k; omega)
            dsimp only [EvD.arr] at hy
            gi_wp2
            refine hR.mono ?_
            rintro r W3 (⟨rfl, hJ3, hk3⟩ | ⟨rfl, hJx3⟩)
            · have HJ3 := Lib.hid hJ3
              have HU3 := Lib.hid (HU2.out.trans hk3 fun _ _ => id)
              clear hJ3 hk3
              gi_wp2
              go_roundw
              case rel => exact ⟨k + 1, by omega, by go_num, by rw [wksN_hit HE.out HW.out]; exact HJ3.out, HU3.out⟩
              case measure => simp [intOf]; omega
            · have HJ3 := Lib.hid hJx3
              clear hJx3
              gi_wp2
              refine bodyPost_ret (results_none rfl _ _ _) rfl ?_
              exact ⟨⟨_, rfl⟩, .inr ⟨_, trivial, HJ3.out⟩⟩
          · by_cases h2 : kd = 2
            · have HW : Hid (wkOf l ⟨kd, tx, key, has, data⟩ k = true) := Lib.hid (by rw [wkOf_at, show atN l l.length (EvD.mk kd tx key has data).tx = some j from HAT.out]; simp [h2, hkj])
              subst h2
              obtain ⟨fn, tmps, assign, body, hy, hR⟩ := hY _ ⟨2, tx, key, has, data⟩ _ HJ2.out (by have := wksN_len l k; omega)
              dsimp only [EvD.arr] at hy
              gi_wp2
              refine hR.mono ?_
              rintro r W3 (⟨rfl, hJ3, hk3⟩ | ⟨rfl, hJx3⟩)
              · have HJ3 := Lib.hid hJ3
                have HU3 := Lib.hid (HU2.out.trans hk3 fun _ _ => id)
                clear hJ3 hk3
                gi_wp2
                go_roundw
                case rel => exact ⟨k + 1, by omega, by go_num, by rw [wksN_hit HE.out HW.out]; exact HJ3.out, HU3.out⟩
                case measure => simp [intOf]; omega
              · have HJ3 := Lib.hid hJx3
                clear hJx3
                gi_wp2
                refine bodyPost_ret (results_none rfl _ _ _) rfl ?_
                exact ⟨⟨_, rfl⟩, .inr ⟨_, trivial, HJ3.out⟩⟩
            · have HW : Hid (wkOf l ⟨kd, tx, key, has, data⟩ k = false) := Lib.hid (by rw [wkOf_at, show atN l l.length (EvD.mk kd tx key has data).tx = some j from HAT.out]; simp [h1, h2])
              have hb1 : (kd != 1) = true := by simp [h1]
              have hb2 : (kd != 2) = true := by simp [h2]
              gi_wp2
              go_roundw
              case rel => exact ⟨k + 1, by omega, by go_num, by rw [wksN_miss HE.out HW.out]; exact HJ2.out, HU2.out⟩
              case measure => simp [intOf]; omega
        · have hkj' : j ≤ k := by omega
          have HW : Hid (wkOf l ⟨kd, tx, key, has, data⟩ k = false) := Lib.hid (by rw [wkOf_at, show atN l l.length (EvD.mk kd tx key has data).tx = some j from HAT.out]; simp [hkj])
          gi_wp2
          go_roundw
          case rel => exact ⟨k + 1, by omega, by go_num, by rw [wksN_miss HE.out HW.out]; exact HJ2.out, HU2.out⟩
          case measure => simp [intOf]; omega
    · have hi : ¬ (k : Int) < (l.length : Nat) := by omega
      obtain rfl : k = l.length := by omega
      have HJ2 := Lib.hid hj
      clear hj hu
      gi_wp2
      go_end0
      exact ⟨⟨_, rfl⟩, .inl HJ2.out⟩
end Go.Proofs.Ytddknmgajacofaa
