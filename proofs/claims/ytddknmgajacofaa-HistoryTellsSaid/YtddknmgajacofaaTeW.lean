/-
  The keys of a map of pairs, collected in a row.
-/
import Derived.Test.YtddknmgajacofaaTeT
import Derived.Test.YtddknmgajacofaaTeE
import Derived.RangeFuncNested
namespace Go.Proofs.Ytddknmgajacofaa
open Go Go.RowKit Go.MapKept Go.Shelf
open Go.ChangeMaps (setBlock)
attribute [local go_sem] Oper.semAt_some

theorem grown_walk {W W' : World} {row : Option Nat} (hg : W.grownBy W' row) (hr : ∀ r, row = some r → ∃ o : Obj, W.heap[r]? = some o ∧ o.isWalk = false) (k : Nat) (o : Obj) (hk : W.heap[k]? = some o) (ho : o.isWalk = true) : W'.heap[k]? = some o := by
  refine (hg.block k (lt_of_heap hk) fun e => ?_).trans hk
  obtain ⟨x, hx, hxw⟩ := hr _ e.symm
  rw [hk] at hx
  cases hx
  rw [ho] at hxw
  cases hxw
set_option maxHeartbeats 4000000 in
set_option maxRecDepth 100000 in
theorem pappend_ok {w : World} {b b1 N : Nat} {F : Int × Int → Option Value} (h1 : Blk w b1 57 #[.map (some b)]) (hm : MapIs encP w b F) (hN : ∀ xs : List (Int × Int), xs.Nodup → (∀ p ∈ xs, F p ≠ none) → xs.length ≤ N) (hN2 : N ≤ 90000) :
    Calls Try.prog 46 #[.slice none 0 0, .func (.func 47) #[] #[.pointer (some ⟨b1, 0, none⟩)]] w fun e w' => ∃ v xs, e = .returned v ∧ OwnP w.heap.size w' v xs ∧ xs.Nodup ∧ (∀ p, p ∈ xs ↔ F p ≠ none) ∧ Upd Nowhere w w' := by
  have hlt1 := h1.lt
  have hltb := hm.lt
  refine (callsIn_wide (n := 6)).1 (callsIn_of_wp_marks Try.func46 rfl trivial ?_ rfl)
  simp only [Try.ntmps46, List.size_toArray, List.length_cons, List.length_nil, Nat.reduceAdd, Nat.reduceSub, Array.replicate_succ, Array.replicate_zero, List.push_toArray, List.append_toArray, List.nil_append, List.cons_append]
  refine wpIn_wide.2 ?_
  go_wp2_with fail
  have HB0 := Lib.hid (Blk.new w 32 #[.slice none 0 0])
  have HU0 := Lib.hid ((Upd.refl Nowhere w).alloc (.cells #[.slice none 0 0] 32))
  have h1' := h1.upd HU0.out id
  have hm' := hm.upd HU0.out id
  generalize hw1 : w.alloc (.cells #[.slice none 0 0] 32) = w1 at *
  have HSZ : Hid (w1.heap.size = w.heap.size + 1) := Lib.hid (by rw [← hw1]; simp)
  refine (wpIn_wide (n := 6)).1 ?_
  refine wpIn_rangeFunc_ownH (w0 := w1) (Kp := KpW (fun k => w.heap.size ≤ k)) rfl (by decide) (gf := 47) (lb := #[.pointer (some ⟨b1, 0, none⟩)]) rfl trivial (enters_of Try.func47 (by kernel_rfl) rfl)
    (pkeys_stops h1' hm' (by omega) hN 5 (by decide))
    (fun h k => ⟨fun i o h1 h2 => k.1 i o (h.1 i o h1 h2) h2, h.2.trans k.2 fun _ _ => id⟩) ?hKb (Below.refl _ _) (fun _ => rfl)
    (fun pre W => ∃ v, OwnP w1.heap.size W v pre ∧ Blk W w.heap.size 32 #[v] ∧ Upd (fun k => w.heap.size ≤ k) w1 W)
    (fun _ _ _ => False) ?hI (fun _ _ _ _ _ hs _ _ => hs) ?h0
    (fun x a' W => ∃ Bx, w1.heap.size ≤ Bx ∧ Blk W Bx 44 #[.int .i64 x.1, .int .i64 x.2] ∧ a' = { tmps := #[.slice none 0 0, .func (.func 47) #[] #[.pointer (some ⟨b1, 0, none⟩)], .pointer (some ⟨w.heap.size, 0, none⟩), undef, .slice none 0 0, .pointer (some ⟨Bx, 0, none⟩), .func (.func 47) #[] #[.pointer (some ⟨b1, 0, none⟩)], .agg #[.int .i64 x.1, .int .i64 x.2], undef, undef, undef, undef, undef], defers := [] })
    ?hAx ?assign ?body ?done ?stop
  case hKb =>
    intro W ll x x' hl hx h2 h3
    refine ⟨fun k o hk ho => ?_, (Upd.refl _ W).grown (grownBy_putObj' W ll x') fun k hk _ => by cases hk; have := HSZ.out; show w.heap.size ≤ ll; omega⟩
    refine grown_walk (grownBy_putObj' W ll x') (fun r hr => ?_) k o hk ho
    cases hr
    exact ⟨x, hx, h3⟩
  case hI =>
    rintro pre A1 B1 row ⟨v, ho, hb, hu⟩ hg hr
    have hs := HSZ.out
    have hne : ∀ {k t cs}, Blk A1 k t cs → row ≠ some k := fun hk e => by
      obtain ⟨_, x, hx, hxc⟩ := hr _ e
      rw [show A1.heap[_]? = _ from hk] at hx
      cases hx
      cases hxc
    refine ⟨v, ho.upd (F := fun k => row = some k) ((Upd.refl (fun k => row = some k) A1).grown hg fun k hk _ => hk) (fun k hk e => ?_), (hg.block _ hb.lt fun e => hne hb e.symm).trans hb, hu.grown hg fun k hk _ => by have := (hr _ hk).1; omega⟩
    obtain ⟨cs, hcs⟩ := ho.is_cells hk
    exact hne (show Blk A1 k _ cs from hcs) e
  case h0 => exact ⟨_, OwnR.nil _ _ _ _ _, HB0.out, Upd.refl _ _⟩
  case hAx =>
    rintro x a' _ A1 B1 row ⟨Bx, h1, h2, h3⟩ hg hr
    refine ⟨Bx, h1, (hg.block Bx h2.lt fun e => ?_).trans h2, h3⟩
    obtain ⟨_, y, hy, hyc⟩ := hr Bx e.symm
    rw [show A1.heap[Bx]? = _ from h2] at hy
    cases hy
    cases hyc
  case assign =>
    rintro ll pre x W K ⟨v, ho, hb, hu⟩ hK
    have hs := hu.size
    gi_wp2
    refine hK _ _ ((KeepsOthers.alloc _ _).from _) ⟨fun k o hk _ => (Below.heap_alloc W _ k (lt_of_heap hk)).trans hk, (Upd.refl _ W).alloc _⟩ ⟨v, ho.alloc _, hb.alloc _, hu.alloc _⟩ ⟨W.heap.size, hs, Blk.new _ _ _, rfl⟩
  case body =>
    rintro ll pre ⟨x, y⟩ a' W hll ⟨rr, hrr⟩ ⟨v, ho, hb, hu⟩ ⟨Bx, hBx, hB, rfl⟩ hlt
    have hs := HSZ.out
    have hus := hu.size
    obtain ⟨v3, w3, hr3, ho3, hg3, hb3⟩ := rkP.app1 ho hus 32 (x, y) #[.int .i64 x, .int .i64 y] rfl (by omega)
    obtain ⟨A3, n3, rfl, hA3⟩ := ho3.els.val
    have HR3 := Lib.hid hr3
    have HO3 := Lib.hid ho3
    have HBW := Lib.hid hb
    have HOW := Lib.hid ho
    have HUW := Lib.hid hu
    have HB3 := Lib.hid (show Blk w3 w.heap.size 32 #[v] from (hg3.block _ hb.lt fun e => absurd (ho.new _ e.symm) (by omega)).trans hb)
    have HG3 := Lib.hid hg3
    have cb := hb.cell
    have cx := hB.cell
    have c3 := HB3.out.cell
    have f3 := HB3.out.frozen
    have HL := Lib.hid hlt
    clear hr3 ho3 hg3 hb3 hb ho hu hus hs hlt
    refine wpIn_block ?_
    refine wpIn_region_plain ?_ (by kernel_rfl) ?_
    · rintro ⟨_, _, h⟩
      exact h
    go_wp2_with (at_builtin; refine wpList_append_run rfl _ _ _ rfl rfl rfl HR3.out ?_)
    have hB3' : Blk (w3.setCell ⟨w.heap.size, 0, none⟩ (.slice A3 (pre.length + 1) n3)) w.heap.size 32 #[.slice A3 (pre.length + 1) n3] := HB3.out.set_ 0 _
    have hu3 : Upd (fun k => k = w.heap.size) w3 (w3.setCell ⟨w.heap.size, 0, none⟩ (.slice A3 (pre.length + 1) n3)) := (Upd.refl (fun k => k = w.heap.size) w3).setCell (p := ⟨w.heap.size, 0, none⟩) (fun _ => rfl) _
    have hut := (((Upd.refl (fun k => w.heap.size ≤ k) W).grown HG3.out fun k hk _ => by have := HOW.out.new k hk; have := HSZ.out; omega)).trans (F := fun k => w.heap.size ≤ k) hu3 fun k _ (e : k = w.heap.size) => by omega
    have hkeep : ∀ (k : Nat) (o : Obj), W.heap[k]? = some o → (o.isCells = false ∨ o.isWalk = true) → (w3.setCell ⟨w.heap.size, 0, none⟩ (.slice A3 (pre.length + 1) n3)).heap[k]? = some o := by
      intro k o hk ho
      have hne : k ≠ w.heap.size := fun e => by
        rw [e, show W.heap[w.heap.size]? = _ from HBW.out] at hk
        cases hk
        rcases ho with h | h <;> cases h
      have hnv : some k ≠ v.ownBlock := fun e => by
        obtain ⟨cs, hcs⟩ := HOW.out.is_cells e.symm
        rw [hk] at hcs
        cases hcs
        rcases ho with h | h <;> cases h
      exact (hu3.block k (Nat.lt_of_lt_of_le (lt_of_heap hk) HG3.out.size) hne).trans ((HG3.out.block k (lt_of_heap hk) hnv).trans hk)
    refine ⟨⟨hut.size, fun k o hk h0 hx => ?_⟩, ⟨fun k o hk ho => hkeep k o hk (.inr ho), hut⟩, .slice A3 (pre.length + 1) n3, ?_, hB3', HUW.out.trans hut fun _ _ => id⟩
    · exact hkeep _ _ h0 (.inl hx)
    · have h9 := HO3.out.upd hu3 fun k hk e => by have := HO3.out.new k hk; have := HSZ.out; omega
      rw [List.length_append] at h9
      exact h9
  case done =>
    rintro D xs W hD ⟨hnd, hxs⟩ ⟨v, ho, hb, hu⟩ hK
    have HDW := Lib.hid hK
    have HOW := Lib.hid ho
    have HN := Lib.hid hnd
    have HX := Lib.hid hxs
    have HUW := Lib.hid (HU0.out.trans (F := Nowhere) hu fun k hk h => absurd h (by omega))
    have cb := hb.cell
    clear hb ho hu hK hnd hxs
    gi_wp2
    go_wp2_with fail
    refine ⟨by simp, .inl ⟨_, _, rfl, run_takeDeferred HDW.out, ?_⟩⟩
    have hs := HSZ.out
    refine ⟨_, results_tmp rfl _ _ _, v, xs, rfl, ?_, HN.out, HX.out, HUW.out.grown (grownBy_putObj' _ D _) fun k hk h => by cases hk; omega⟩
    refine ⟨own_upd HOW.out.row ((Upd.refl (· = D) W).grown (grownBy_putObj' _ D _) fun k hk _ => (Option.some.inj hk).symm) fun k hk e => ?_, fun k hk => by have := HOW.out.new k hk; omega⟩
    obtain ⟨cs, hcs⟩ := HOW.out.is_cells hk
    rw [show k = D from e, HDW.out] at hcs
    cases hcs
  case stop =>
    rintro D c pre W _ _ h _
    exact h.elim
theorem pcollect_ok {w : World} {b b1 N : Nat} {F : Int × Int → Option Value} (h1 : Blk w b1 57 #[.map (some b)]) (hm : MapIs encP w b F) (hN : ∀ xs : List (Int × Int), xs.Nodup → (∀ p ∈ xs, F p ≠ none) → xs.length ≤ N) (hN2 : N ≤ 90000) :
    Calls Try.prog 30 #[.func (.func 47) #[] #[.pointer (some ⟨b1, 0, none⟩)]] w fun e w' => ∃ v xs, e = .returned v ∧ OwnP w.heap.size w' v xs ∧ xs.Nodup ∧ (∀ p, p ∈ xs ↔ F p ≠ none) ∧ Upd Nowhere w w' := by
  have hc := pappend_ok h1 hm hN hN2
  go_enter Try.func30, Try.ntmps30
  go_wp2_with (go_at_call 46; refine hc.mono ?_; rintro e w9 ⟨v, xs, rfl, ho, hnd, hxs, hu⟩)
  go_ret
  exact ⟨_, _, rfl, ho, hnd, hxs, hu⟩
end Go.Proofs.Ytddknmgajacofaa
