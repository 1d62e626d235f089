/-
  The program's Ahead: the pairs found, in a map.
-/
import Derived.Test.YtddknmgajacofaaTeS
import Derived.Test.YtddknmgajacofaaHistL
import Derived.Test.YtddknmgajacofaaRfK
import Derived.Test.YtddknmgajacofaaTeO
import Derived.Test.YtddknmgajacofaaTeX
namespace Go.Proofs.Ytddknmgajacofaa
open Go Go.RowKit Go.Shelf
attribute [local go_sem] Oper.semAt_some

/-- Of the two maps of a key: who is in it. -/
def SxP (pre : List EvD) (key : ByteArray) (rm wm b : Nat) (t : Int) : Prop := (b = wm ∧ wrP pre key t) ∨ (b = rm ∧ rdP pre key t)
abbrev mapC (b : Nat) : List Value := [.map (some b)]
theorem rkM : RowK Try.prog 65 62 mapC 1 := ⟨Try.underlying65, ⟨.map none, 8, by kernel_rfl, rfl, by decide⟩, fun _ => rfl, fun a u hu => by simp [mapC] at hu; subst hu; rfl, by decide⟩
theorem rowOne (W : World) (b : Nat) : OwnR 62 mapC 1 W.heap.size (W.alloc (.cells #[.map (some b)] 62)) (.slice (some ⟨W.heap.size, 0, none⟩) 1 1) [b] :=
  ⟨⟨rfl, .inr ⟨W.heap.size, 1, #[.map (some b)], rfl, Nat.zero_le _, Blk.new _ _ _, Nat.le_refl _, by decide, rfl, rfl⟩⟩, fun k hk => by cases hk; exact Nat.le_refl _⟩
set_option maxHeartbeats 8000000 in
set_option maxRecDepth 100000 in
theorem ahead_ok {w : World} {v : Value} {l : List EvD} (h : EvsE w v l) (hl : l.length ≤ 60) : Calls Try.prog 14 #[v] w fun r w' => (∃ v', r = .returned v' ∧ ∃ E, EdE w' v' E ∧ AheadIs l E) ∧ Upd Nowhere w w' := by
  have hmm := @run_makeMap Try.prog
  obtain ⟨A, c, rfl, hc⟩ := h.val
  have H := Lib.hid h
  clear h
  refine (callsIn_wide (n := 6)).1 (callsIn_of_wp_marks Try.func14 rfl trivial ?_ rfl)
  simp only [Try.ntmps14, List.size_toArray, List.length_cons, List.length_nil, Nat.reduceAdd, Nat.reduceSub, Array.replicate_succ, Array.replicate_zero, List.push_toArray, List.append_toArray, List.nil_append, List.cons_append]
  refine wpIn_wide.2 ?_
  go_wp2_with fail
  have HX3 := Lib.hid (((Blk.new' (w.alloc (.map #[] 0)) 56 #[.map (some w.heap.size)] (show w.heap.size + 1 = _ by simp)).alloc (.map #[] 0)).alloc (.cells #[.map (some (w.heap.size + 1 + 1))] 57))
  have HX4 := Lib.hid (Blk.new' (((w.alloc (.map #[] 0)).alloc (.cells #[.map (some w.heap.size)] 56)).alloc (.map #[] 0)) 57 #[.map (some (w.heap.size + 1 + 1))] (show w.heap.size + 1 + 1 + 1 = _ by simp))
  have HK0 : Hid (MapIs encB ((((w.alloc (.map #[] 0)).alloc (.cells #[.map (some w.heap.size)] 56)).alloc (.map #[] 0)).alloc (.cells #[.map (some (w.heap.size + 1 + 1))] 57)) w.heap.size (fun _ => none)) := Lib.hid ((((MapIs.new w encB).alloc _).alloc _).alloc _)
  have HF0 : Hid (FndAt ((((w.alloc (.map #[] 0)).alloc (.cells #[.map (some w.heap.size)] 56)).alloc (.map #[] 0)).alloc (.cells #[.map (some (w.heap.size + 1 + 1))] 57)) (w.heap.size + 1 + 1) (fun _ => False)) := Lib.hid ⟨fun _ => none, ((show MapIs encP (((w.alloc (.map #[] 0)).alloc (.cells #[.map (some w.heap.size)] 56)).alloc (.map #[] 0)) (w.heap.size + 1 + 1) (fun _ => none) by have := MapIs.new ((w.alloc (.map #[] 0)).alloc (.cells #[.map (some w.heap.size)] 56)) encP; simpa using this).alloc _), fun _ => by simp⟩
  have HU0 := Lib.hid (((((Upd.refl Nowhere w).alloc (.map #[] 0)).alloc (.cells #[.map (some w.heap.size)] 56)).alloc (.map #[] 0)).alloc (.cells #[.map (some (w.heap.size + 1 + 1))] 57))
  have HS0 : Hid (((((w.alloc (.map #[] 0)).alloc (.cells #[.map (some w.heap.size)] 56)).alloc (.map #[] 0)).alloc (.cells #[.map (some (w.heap.size + 1 + 1))] 57)).heap.size = w.heap.size + 4) := Lib.hid (by simp)
  generalize (((w.alloc (.map #[] 0)).alloc (.cells #[.map (some w.heap.size)] 56)).alloc (.map #[] 0)).alloc (.cells #[.map (some (w.heap.size + 1 + 1))] 57) = w1 at *
  obtain ⟨N, hN⟩ : ∃ N, w.heap.size = N := ⟨_, rfl⟩
  rw [hN] at HX3 HX4 HK0 HF0 HS0
  simp only [hN]
  have HNN := Lib.hid hN
  clear hN
  refine (works_ok (H.out.upd HU0.out fun _ _ => id) (by omega)).mono ?_
  rintro r w2 ⟨b1, b3, bm, rfl, hB1, hB3, hM, s1, s3, sm, hu⟩
  have HX3 := Lib.hid (HX3.out.upd hu id)
  have HX4 := Lib.hid (HX4.out.upd hu id)
  have HK0 := Lib.hid (HK0.out.upd hu id)
  have HF0 := Lib.hid (HF0.out.upd hu id)
  have HU := Lib.hid (HU0.out.trans (F := Nowhere) hu fun _ _ => id)
  have HB1 := Lib.hid hB1
  have HB3 := Lib.hid hB3
  have HM := Lib.hid hM
  have HS := Lib.hid (show N + 4 ≤ b1 ∧ N + 4 ≤ b3 ∧ N + 4 ≤ bm ∧ N + 4 ≤ w2.heap.size ∧ w.heap.size = N by have := HS0.out; have := hu.size; have := HNN.out; omega)
  clear hB1 hB3 hM s1 s3 sm hu HU0 HS0 HNN
  go_wp2_with fail
  refine (wpIn_wide (n := 6)).1 ?_
  refine rangeFunc_book (w := w2) (w0 := w2) (Kp := Upd (fun k => k = N ∨ k = N + 1 + 1 ∨ w2.heap.size ≤ k)) rfl (by decide) (gf := 45) (lb := #[.pointer (some ⟨b1, 0, none⟩), .pointer (some ⟨b3, 0, none⟩)]) rfl trivial (enters_of Try.func45 (by kernel_rfl) rfl)
    (wks_new (v := .slice A l.length c) (l := l) (bm := bm) (H.out.upd HU.out fun _ _ => id) (by omega) ?hF HB1.out HB3.out HM.out ?n3 ?nm 5 (by decide))
    (fun h k => h.trans k fun _ _ => id) ?hKb (Below.refl _ _) (fun _ => rfl)
    (fun pre W => (∃ f, KeyAt (w2.heap.size + 2) W N f (rdP pre) (wrP pre)) ∧ FndAt W (N + 1 + 1) (fndP pre) ∧ Upd (fun k => k = N ∨ k = N + 1 + 1 ∨ w2.heap.size ≤ k) w2 W)
    ?hI ?h0
    (fun x a' W => ∃ Bx, w2.heap.size + 2 ≤ Bx ∧ Blk W Bx 41 x.arr ∧ a' = { tmps := #[.slice A l.length c, undef, .slice none 0 0, .pointer (some ⟨N + 1, 0, none⟩), .pointer (some ⟨N + 1 + 1 + 1, 0, none⟩), .pointer (some ⟨Bx, 0, none⟩), undef, undef, undef, undef, undef, undef, undef, .map (some N), .map (some (N + 1 + 1)), .slice A l.length c, .func (.func 45) #[] #[.pointer (some ⟨b1, 0, none⟩), .pointer (some ⟨b3, 0, none⟩)], .agg x.arr, undef, undef, undef, undef, undef, undef, undef, undef, undef, undef, undef, undef, undef, undef, undef, undef, undef, undef, undef, undef, undef, undef, undef, undef, undef, undef, undef, undef, undef, undef, undef, undef, undef, undef, undef, undef, undef, undef, undef, undef, undef, undef, undef, undef, undef, undef, undef, undef, undef, undef, undef, undef, undef, undef, undef, undef, undef, undef, undef, undef, undef, undef, undef, undef, undef, undef, undef, undef], defers := [] })
    ?hAx ?assign ?body ?done
  case hF =>
    intro hne k hk hF
    obtain ⟨b, off, c', he, hb, _⟩ := Reads.addr H.out (List.length_pos_iff.2 hne)
    cases he
    cases hk
    have := HS.out
    have hF' : b = N ∨ b = N + 1 + 1 ∨ w2.heap.size ≤ b := hF
    omega
  case n3 =>
    have := HS.out
    have := HB3.out.lt
    omega
  case nm =>
    have := HS.out
    have := HM.out.lt
    omega
  case hKb =>
    intro W ll x' hl _
    exact (Upd.refl _ W).grown (grownBy_putObj' W ll x') fun k hk _ => by cases hk; exact .inr (.inr hl)
  case hI =>
    rintro pre A1 B1 row ⟨⟨f, hk⟩, hf, hu⟩ hg hr
    have hup : Upd (fun k => row = some k) A1 B1 := (Upd.refl _ A1).grown hg fun k hk _ => hk
    have hsz := HS.out
    have hno : ∀ b, (w2.heap.size + 2 ≤ b ∨ b < w2.heap.size) → row ≠ some b := fun b hb e => by
      have := hr _ e
      omega
    exact ⟨⟨f, hk.upd hup (hno _ (by omega)) fun K g hK => ⟨hno _ (by have := (hk.has K g hK).1; omega), hno _ (by have := (hk.has K g hK).2.1; omega), hno _ (by have := (hk.has K g hK).2.2.1; omega)⟩⟩, hf.upd hup (hno _ (by omega)), hu.grown hg fun k hk _ => .inr (.inr (hr k hk).1)⟩
  case h0 => exact ⟨⟨fun _ => none, HK0.out, fun K _ t => ⟨fun ⟨_, h, _⟩ => by simp at h, fun ⟨_, h, _⟩ => by simp at h⟩, fun K g h => (by cases h), fun _ _ _ _ _ h => (by cases h)⟩, HF0.out.congr fun p => ⟨False.elim, fun h => fndP_nil p h⟩, Upd.refl _ _⟩
  case hAx =>
    rintro x a' _ A1 B1 row ⟨Bx, h1, h2, h4⟩ hg hr
    exact ⟨Bx, h1, (hg.block Bx h2.lt fun e => by have := hr Bx e.symm; omega).trans h2, h4⟩
  case assign =>
    rintro ll pre x W K ⟨⟨f, hk⟩, hf, hu⟩ hK hsz
    gi_wp2
    refine hK _ _ ⟨Below.heap_alloc _ _ _ (by omega), Below.heap_alloc _ _ _ (by omega)⟩ ((Upd.refl _ W).alloc _) ⟨⟨f, hk.alloc _⟩, hf.upd ((Upd.refl Nowhere W).alloc _) id, hu.alloc _⟩ ⟨W.heap.size, hsz, Blk.new _ _ _, rfl⟩
  case body =>
    rintro ll pre ⟨kd, tx, key, has, data⟩ a' W hsz ⟨⟨f, hk⟩, hf, hu⟩ ⟨Bx, hBx, hB, rfl⟩ hlt
    have hsN := HS.out
    have cX3 := (HX3.out.upd hu (by omega)).cell
    have cX4 := (HX4.out.upd hu (by omega)).cell
    have cB := hB.cell
    have HK := Lib.hid hk
    have HF := Lib.hid hf
    have HUW := Lib.hid hu
    have HB := Lib.hid hB
    have H4 := Lib.hid (HX4.out.upd hu (by omega))
    have H3 := Lib.hid (HX3.out.upd hu (by omega))
    have hlk := hk.look key
    clear hk hf hu hB
    cases hfk : f key with
    | none =>
      rw [hfk] at hlk
      simp only [Option.map_none, Option.getD_none] at hlk
      obtain ⟨W4, hra, hka, hua⟩ := HK.out.add (by omega) (by omega) hfk
      have HUX := Lib.hid (hua.mono (G := (fun k => k = N ∨ k = N + 1 + 1 ∨ w2.heap.size + 2 ≤ k)) fun k _ h => .inl h)
      have cBn := (((HB.out.alloc (.map #[] 0)).alloc (.map #[] 0)).alloc (.cells #[.map (some W.heap.size), .map (some (W.heap.size + 1))] 64)).cell
      have cXn := (((H3.out.alloc (.map #[] 0)).alloc (.map #[] 0)).alloc (.cells #[.map (some W.heap.size), .map (some (W.heap.size + 1))] 64)).cell
      have HNB := Lib.hid HB.out.lt
      have HN4 := Lib.hid H4.out.lt
      obtain ⟨f4, HFK0, hka⟩ : ∃ f4 : ByteArray → Option Tri, f4 key = some (W.heap.size + 1 + 1, W.heap.size, W.heap.size + 1) ∧ KeyAt (w2.heap.size + 2) W4 N f4 (rdP pre) (wrP pre) := ⟨_, if_pos rfl, hka⟩
      obtain ⟨_, hrB, hwB, hgb, hsr, hsw, hrw⟩ := hka.has key _ HFK0
      dsimp only at hgb hrB hwB hsr hsw hrw
      have HFK := Lib.hid HFK0
      have HK := Lib.hid hka
      have HF := Lib.hid (HF.out.upd hua (by omega))
      have HB := Lib.hid (HB.out.upd hua (by omega))
      have H4 := Lib.hid (H4.out.upd hua (by omega))
      have HGB := Lib.hid hgb
      have HRW0 := Lib.hid (show w2.heap.size + 2 ≤ W.heap.size ∧ w2.heap.size + 2 ≤ W.heap.size + 1 ∧ W.heap.size ≠ W.heap.size + 1 ∧ W.heap.size < W4.heap.size ∧ W.heap.size + 1 < W4.heap.size from ⟨hrB, hwB, hrw, hsr.lt, hsw.lt⟩)
      have cg := hgb.cell
      have cB4 := HB.out.cell
      have HUS := Lib.hid hua.size
      clear hfk hgb hrB hwB hsr hsw hrw hka hua HFK0
      have HRW := Lib.hid (show w2.heap.size + 2 ≤ W.heap.size ∧ w2.heap.size + 2 ≤ W.heap.size + 1 ∧ W.heap.size ≠ W.heap.size + 1 ∧ W.heap.size < W4.heap.size ∧ W.heap.size + 1 < W4.heap.size ∧ w2.heap.size + 2 ≤ W4.heap.size by have := HRW0.out; omega)
      by_cases hk2 : kd = 2
      · subst hk2
        have HRO : Hid (OwnR 62 mapC 1 W4.heap.size (W4.alloc (.cells #[.map (some (W.heap.size + 1))] 62)).drew (.slice (some ⟨W4.heap.size, 0, none⟩) 1 1) [(W.heap.size + 1)]) := Lib.hid ((rowOne W4 (W.heap.size + 1)).upd (Upd.refl Nowhere _).drew fun _ _ => id)
        have cgo := (HGB.out.alloc (.cells #[.map (some (W.heap.size + 1))] 62)).cell
        have cBo := (HB.out.alloc (.cells #[.map (some (W.heap.size + 1))] 62)).cell
        obtain ⟨v5, w5, hr5, ho5, hg5, hb5⟩ := rkM.app1 HRO.out (by simp) 65 W.heap.size #[.map (some W.heap.size)] rfl (by simp)
        obtain ⟨A7, c7, rfl, hc7⟩ := ho5.els.val
        have HU5 : Hid (Upd Nowhere W4 w5) := Lib.hid (((Upd.refl Nowhere W4).alloc (.cells #[.map (some (W.heap.size + 1))] 62)).drew.grown hg5 fun k hk h => by cases hk; simp at h)
        have HR5 : Hid ((Builtin.append_ #[65, 65] 65 #[.slice (some ⟨W4.heap.size, 0, none⟩) 1 1, .slice (some ⟨W4.heap.size + 1, 0, none⟩) 1 1]).run Try.prog ((W4.alloc (.cells #[.map (some (W.heap.size + 1))] 62)).alloc (.cells #[.map (some W.heap.size)] 62)).drew = .ok (.slice A7 2 c7) w5) := Lib.hid (by rw [← show (W4.alloc (.cells #[.map (some (W.heap.size + 1))] 62)).heap.size = W4.heap.size + 1 by simp]; exact hr5)
        have HEL5 : Hid (Els 1 mapC w5 (.slice A7 2 c7) [(W.heap.size + 1), W.heap.size]) := Lib.hid ho5.els
        have HELN : Hid (∀ k, (Value.slice A7 2 c7).ownBlock = some k → N + 1 + 1 < k ∧ k < w5.heap.size) := Lib.hid fun k hk => by have h1 := ho5.new k hk; have h2 := ho5.lt hk; have := HRW.out; omega
        have HKO := Lib.hid (HK.out.upd HU5.out id fun _ _ _ => ⟨id, id, id⟩)
        have HFO := Lib.hid (HF.out.upd HU5.out id)
        have HBO := Lib.hid (HB.out.upd HU5.out id)
        have H4O := Lib.hid (H4.out.upd HU5.out id)
        have HUO := Lib.hid (HUX.out.trans (F := (fun k => k = N ∨ k = N + 1 + 1 ∨ w2.heap.size + 2 ≤ k)) HU5.out fun _ _ h => h.elim)
        have HSB2 : Hid (N + 1 + 1 < Bx) := Lib.hid (by omega)
        have HLT : Hid (∀ b ∈ [(W.heap.size + 1), W.heap.size], w2.heap.size + 2 ≤ b ∧ b < w5.heap.size) := Lib.hid fun b hb => by
          have h1 := HRW.out
          have h2 := HU5.out.size
          simp only [List.mem_cons, List.not_mem_nil, or_false] at hb
          rcases hb with rfl | rfl <;> omega
        have HBNE : Hid (N + 1 + 1 < w2.heap.size) := Lib.hid (by omega)
        have HMB : Hid (w2.heap.size + 2 ≤ (W.heap.size + 1)) := Lib.hid HRW.out.2.1
        have KA : Hid ((fun w' : World => w'.cell? ⟨W.heap.size + 1 + 1, 0, none⟩ = some (.map (some W.heap.size)) ∧ w'.cell? ⟨W.heap.size + 1 + 1, 1, none⟩ = some (.map (some (W.heap.size + 1)))) ((W4.alloc (.cells #[.map (some (W.heap.size + 1))] 62)).alloc (.cells #[.map (some W.heap.size)] 62)).drew) := Lib.hid ⟨((HGB.out.alloc _).alloc _).cell 0, ((HGB.out.alloc _).alloc _).cell 1⟩
        have K1 : Hid ((fun w' : World => w'.cell? ⟨W.heap.size + 1 + 1, 0, none⟩ = some (.map (some W.heap.size)) ∧ w'.cell? ⟨W.heap.size + 1 + 1, 1, none⟩ = some (.map (some (W.heap.size + 1)))) w5) := Lib.hid ⟨(HGB.out.upd HU5.out id).cell 0, (HGB.out.upd HU5.out id).cell 1⟩
        have K0 : (fun w' : World => w'.cell? ⟨W.heap.size + 1 + 1, 0, none⟩ = some (.map (some W.heap.size)) ∧ w'.cell? ⟨W.heap.size + 1 + 1, 1, none⟩ = some (.map (some (W.heap.size + 1)))) (W4.alloc (.cells #[.map (some (W.heap.size + 1))] 62)) := ⟨(HGB.out.alloc _).cell 0, (HGB.out.alloc _).cell 1⟩
        clear hr5 ho5 hg5 hb5 hc7
        gi_wp2
        refine wpIn_region_held_plain (S := fun w' : World => w'.cell? ⟨W.heap.size + 1 + 1, 0, none⟩ = some (.map (some W.heap.size)) ∧ w'.cell? ⟨W.heap.size + 1 + 1, 1, none⟩ = some (.map (some (W.heap.size + 1)))) (fun ⟨_, _, h⟩ => h) (by kernel_rfl) (by kernel_rfl) K0 (fun hHeld => ?_)
        refine wpAnyH_take (i := 0) (v := ?vv0b) rfl (by kernel_rfl) (by kernel_rfl) (by kernel_rfl) (fun _ _ _ h => h) (Or.inl ⟨by rfl, ?hy0b⟩) hHeld ?rest0b
        case hy0b =>
          intro W' hSw
          try dsimp only at hSw
          obtain ⟨s0, s1⟩ := hSw
          go_simp
          try with_reducible rfl
        case' rest0b => simp only [Act.put, List.setIfInBounds_toArray]
        refine wpAnyH_take (i := 1) (v := ?vv1b) rfl (by kernel_rfl) (by kernel_rfl) (by kernel_rfl) (fun _ _ _ h => h) (Or.inl ⟨by rfl, ?hy1b⟩) hHeld ?rest1b
        case hy1b =>
          intro W' hSw
          try dsimp only at hSw
          obtain ⟨s0, s1⟩ := hSw
          go_simp
          try with_reducible rfl
        case' rest1b => simp only [Act.put]
        refine wpAnyH_take (i := 2) (v := ?vv2b) rfl (by kernel_rfl) (by kernel_rfl) (by kernel_rfl) (fun _ _ _ h => h) (Or.inl ⟨by rfl, ?hy2b⟩) hHeld ?rest2b
        case hy2b =>
          intro W' hSw
          try dsimp only at hSw
          obtain ⟨s0, s1⟩ := hSw
          go_simp
          try with_reducible rfl
        case' rest2b => simp only [Act.put]
        refine wpAnyH_take (i := 3) (v := ?vv3b) rfl (by kernel_rfl) (by kernel_rfl) (by kernel_rfl) (fun _ _ _ h => h) (Or.inl ⟨by rfl, ?hy3b⟩) hHeld ?rest3b
        case hy3b =>
          intro W' hSw
          try dsimp only at hSw
          obtain ⟨s0, s1⟩ := hSw
          go_simp
          try with_reducible rfl
        case' rest3b => simp only [Act.put]
        refine wpAnyH_take (i := 4) (v := ?vv4b) rfl (by kernel_rfl) (by kernel_rfl) (by kernel_rfl) (fun _ _ _ h => h) (Or.inl ⟨by rfl, ?hy4b⟩) hHeld ?rest4b
        case hy4b =>
          intro W' hSw
          try dsimp only at hSw
          obtain ⟨s0, s1⟩ := hSw
          go_simp
          try with_reducible rfl
        case' rest4b => simp only [Act.put]
        refine wpAnyH_take (i := 7) (v := ?vv7b) rfl (by kernel_rfl) (by kernel_rfl) (by kernel_rfl) (fun _ _ _ h => h) (Or.inl ⟨by rfl, ?hy7b⟩) hHeld ?rest7b
        case hy7b =>
          intro W' hSw
          try dsimp only at hSw
          obtain ⟨s0, s1⟩ := hSw
          go_simp
          try with_reducible rfl
        case' rest7b => simp only [Act.put]
        refine wpAnyH_take (i := 8) (v := ?vv8b) rfl (by kernel_rfl) (by kernel_rfl) (by kernel_rfl) (fun _ _ _ h => h) (Or.inl ⟨by rfl, ?hy8b⟩) hHeld ?rest8b
        case hy8b =>
          intro W' hSw
          try dsimp only at hSw
          obtain ⟨s0, s1⟩ := hSw
          go_simp
          try with_reducible rfl
        case' rest8b => simp only [Act.put]
        refine wpAnyH_take (i := 9) (v := ?vv9b) rfl (by kernel_rfl) (by kernel_rfl) (by kernel_rfl) (fun _ _ _ h => h) (Or.inl ⟨by rfl, ?hy9b⟩) hHeld ?rest9b
        case hy9b =>
          intro W' hSw
          try dsimp only at hSw
          obtain ⟨s0, s1⟩ := hSw
          go_simp
          try with_reducible rfl
        case' rest9b => simp only [Act.put]
        refine wpAnyH_take (i := 10) (v := ?vv10b) rfl (by kernel_rfl) (by kernel_rfl) (by kernel_rfl) (fun _ _ _ h => h) (Or.inl ⟨by rfl, ?hy10b⟩) hHeld ?rest10b
        case hy10b =>
          intro W' hSw
          try dsimp only at hSw
          obtain ⟨s0, s1⟩ := hSw
          go_simp
          try with_reducible rfl
        case' rest10b => simp only [Act.put]
        refine wpAnyH_ready (rs := [5]) (by kernel_rfl) (by simp) ?_
        refine AllReadyH.cons rfl (fun K hK => ?_) AllReadyH.nil
        go_simp
        refine hK.out _ _ KA.out (fun hHeld => ?_)
        clear hK K
        try simp only [Act.put, List.setIfInBounds_toArray, List.set_cons_zero, List.set_cons_succ]
        refine wpAnyH_ready (rs := [6]) (by kernel_rfl) (by simp) ?_
        refine AllReadyH.cons rfl (fun K hK => ?_) AllReadyH.nil
        refine step_append_run rfl _ _ _ rfl rfl rfl HR5.out ?_
        refine hK.out _ _ K1.out (fun hHeld => ?_)
        clear hK K
        try simp only [Act.put, List.setIfInBounds_toArray]
        refine wpAnyH_ready (rs := [11]) (by kernel_rfl) (by simp) ?_
        refine AllReadyH.cons rfl (fun K hK => ?_) AllReadyH.nil
        go_simp
        refine hK.out _ _ K1.out (fun hHeld => ?_)
        clear hK K
        try simp only [Act.put, List.setIfInBounds_toArray, List.set_cons_zero, List.set_cons_succ]
        refine wpAnyH_ready (rs := [12]) (by kernel_rfl) (by simp) ?_
        refine AllReadyH.cons rfl (fun K hK => ?_) AllReadyH.nil
        go_simp
        refine hK.out _ _ K1.out (fun hHeld => ?_)
        clear hK K
        try simp only [Act.put, List.setIfInBounds_toArray, List.set_cons_zero, List.set_cons_succ]
        refine wpAnyH_done (by kernel_rfl) ?_ _
        have HSET : Hid (∀ b ∈ [(W.heap.size + 1), W.heap.size], SetAt w5 b (SxP pre key W.heap.size (W.heap.size + 1) b)) := Lib.hid fun b hb => by
          obtain ⟨_, _, _, _, h5, h6, h7⟩ := HKO.out.has key _ HFK.out
          simp only [List.mem_cons, List.not_mem_nil, or_false] at hb
          rcases hb with rfl | rfl
          · exact h6.congr fun t => ⟨fun h => .inl ⟨rfl, h⟩, fun h => h.elim (fun h => h.2) fun h => absurd h.1.symm HRW.out.2.2.1⟩
          · exact h5.congr fun t => ⟨fun h => .inr ⟨rfl, h⟩, fun h => h.elim (fun h => absurd h.1 HRW.out.2.2.1) fun h => h.2⟩
        have HEL := Lib.hid HEL5.out
        have hsW := HUO.out.size
        gi_wp2
        clear cg cB cX3 cX4 cgo cBo hlk hra cBn cXn cB4
        gi_loopw [57] (fun s wr => ∃ j : Nat, j ≤ 2 ∧ s = .int .i64 j ∧ FndAt wr (N + 1 + 1) (fun p => fndP pre p ∨ (p.1 = tx ∧ p.2 ≠ tx ∧ ∃ b ∈ ([(W.heap.size + 1), W.heap.size]).take j, SxP pre key W.heap.size (W.heap.size + 1) b p.2)) ∧ Upd (fun k => k = N + 1 + 1 ∨ w5.heap.size ≤ k) w5 wr) (fun s _ => 2 - (intOf s).toNat)
        case atStart => exact ⟨0, by omega, rfl, HFO.out.congr fun p => by simp, Upd.refl _ _⟩
        case round =>
          obtain ⟨j, hj, rfl, hfn, hu⟩ := hrel
          have HFN := Lib.hid hfn
          have HUJ := Lib.hid hu
          clear hfn hu
          by_cases hjl : j < 2
          · have hji : (j : Int) < 2 := by omega
            obtain ⟨b, hb⟩ : ∃ b, ([(W.heap.size + 1), W.heap.size])[j]? = some b := ⟨_, List.getElem?_eq_getElem (by simp; omega)⟩
            obtain ⟨b7, o7, c7, hE7, hb7, q7⟩ := (HEL.out.upd HUJ.out fun k hk e => by have := HELN.out k hk; omega).get (fun _ => rfl) hb
            have q7 : wr.cell? ⟨b7, o7 + j, none⟩ = some (.map (some b)) := by have := q7 0 (by omega); simpa using this
            cases hE7
            try rw [Nat.zero_add] at q7
            have HJB := Lib.hid hb
            obtain ⟨Fb, hmb, hSb⟩ := (HSET.out b (List.mem_of_getElem? hb)).upd HUJ.out (by
              have := HLT.out b (List.mem_of_getElem? hb)
              have := HFO.out.lt
              omega)
            obtain ⟨w3, cnt0, hrun0, hR0, hU0, hsz0⟩ := hmb.range (P := Try.prog) (t := 62) Try.underlying62
            have HR0 := Lib.hid hR0
            have HFR := Lib.hid (HFN.out.upd hU0 id)
            have HUR := Lib.hid (HUJ.out.trans (F := fun k => k = N + 1 + 1 ∨ w5.heap.size ≤ k) hU0 fun _ _ h => h.elim)
            have HSB := Lib.hid hSb
            have HSZR := Lib.hid HUJ.out.size
            have HBLT := Lib.hid (HLT.out b (List.mem_of_getElem? hb))
            clear hmb hR0 hU0 hsz0 hSb hb
            gi_wp2
            clear q7 hrun0
            gi_loopw [11] (fun _ wz => ∃ (left : Int → Prop) (cnt : Nat), RangeIs encI wz wr.heap.size b Fb left cnt ∧ FndAt wz (N + 1 + 1) (fun p => (fndP pre p ∨ (p.1 = tx ∧ p.2 ≠ tx ∧ ∃ b ∈ ([(W.heap.size + 1), W.heap.size]).take j, SxP pre key W.heap.size (W.heap.size + 1) b p.2)) ∨ (p.1 = tx ∧ p.2 ≠ tx ∧ Fb p.2 ≠ none ∧ ¬ left p.2)) ∧ (∀ t, left t → Fb t ≠ none) ∧ Upd (fun k => k = N + 1 + 1 ∨ w5.heap.size ≤ k) w5 wz) (fun _ wz => wz.rangeLeft b wr.heap.size)
            case atStart => exact ⟨_, cnt0, HR0.out, HFR.out.congr fun p => ⟨.inl, fun h => h.elim id fun h => absurd h.2.2.1 h.2.2.2⟩, fun _ h => h, HUR.out⟩
            case round =>
              obtain ⟨left, cnt, hR, hfz, hlf, huz⟩ := hrel
              have HR := Lib.hid hR
              have HFZ := Lib.hid hfz
              have HLF := Lib.hid hlf
              have HUZ := Lib.hid huz
              clear hR hfz hlf huz
              rcases HR.out.next (P := Try.prog) KI 0 with ⟨h0, hno, hrun⟩ | ⟨x, vx, wn, cnt1, hfx, hlx, hrun, hR1, hlt1, hu1, hsz1, hen⟩
              · have HFD := Lib.hid (HFZ.out.congr (T' := fun p => fndP pre p ∨ (p.1 = tx ∧ p.2 ≠ tx ∧ ∃ b ∈ ([(W.heap.size + 1), W.heap.size]).take (j + 1), SxP pre key W.heap.size (W.heap.size + 1) b p.2)) fun p => by
                  rw [List.take_add_one, HJB.out]
                  simp only [Option.toList_some, List.mem_append, List.mem_singleton]
                  constructor
                  · rintro ((h | ⟨h1, h2, b', h3, h4⟩) | ⟨h1, h2, h3, _⟩)
                    · exact .inl h
                    · exact .inr ⟨h1, h2, b', .inl h3, h4⟩
                    · exact .inr ⟨h1, h2, b, .inr rfl, (HSB.out _).1 h3⟩
                  · rintro (h | ⟨h1, h2, b', h3 | h3, h4⟩)
                    · exact .inl (.inl h)
                    · exact .inl (.inr ⟨h1, h2, b', h3, h4⟩)
                    · subst h3
                      exact .inr ⟨h1, h2, (HSB.out _).2 h4, hno _⟩)
                clear hno
                gi_wp2
                go_roundw
                case rel => exact ⟨j + 1, by omega, by go_num, HFD.out, HUZ.out⟩
                case measure => simp [intOf]; omega
              · have HFN2 := Lib.hid (HFZ.out.upd hu1 fun e => by have h1 := HSZR.out; have h2 := HFO.out.lt; omega)
                have HR1 := Lib.hid hR1
                have HUN := Lib.hid (HUZ.out.trans (F := fun k => k = N + 1 + 1 ∨ w5.heap.size ≤ k) hu1 fun k _ e => .inr (by have h1 := HSZR.out; omega))
                have HLT1 := Lib.hid hlt1
                have HFX : Hid (Fb x ≠ none) := Lib.hid (by rw [hfx]; simp)
                have HL1 : Hid (∀ t, (left t ∧ t ≠ x) → Fb t ≠ none) := Lib.hid fun t h => HLF.out t h.1
                have hsO := HFO.out.lt
                have cB := (HBO.out.upd HUN.out (by have := HBO.out.lt; have := HSB2.out; omega)).cell
                have cX4 := (H4O.out.upd HUN.out (by have := H4O.out.lt; omega)).cell
                clear hfx hlx hR1 hlt1 hu1 hsz1
                by_cases hxt : x = tx
                · have hxb : (x != tx) = false := by simp [hxt]
                  have HFE := Lib.hid (HFN2.out.congr (T' := fun p => (fndP pre p ∨ (p.1 = tx ∧ p.2 ≠ tx ∧ ∃ b ∈ ([(W.heap.size + 1), W.heap.size]).take j, SxP pre key W.heap.size (W.heap.size + 1) b p.2)) ∨ (p.1 = tx ∧ p.2 ≠ tx ∧ Fb p.2 ≠ none ∧ ¬ (left p.2 ∧ p.2 ≠ x))) fun p => by
                    refine or_congr Iff.rfl ⟨fun ⟨h1, h2, h3, h4⟩ => ⟨h1, h2, h3, fun h => h4 h.1⟩, fun ⟨h1, h2, h3, h4⟩ => ⟨h1, h2, h3, fun h => h4 ⟨h, by rw [hxt]; exact h2⟩⟩⟩)
                  gi_wp2
                  go_roundw
                  case rel => exact ⟨_, cnt1, HR1.out, HFE.out, HL1.out, HUN.out⟩
                  case measure =>
                    rw [HR1.out.left_eq, HR.out.left_eq]
                    exact HLT1.out
                · have hxb : (x != tx) = true := by simpa using hxt
                  obtain ⟨wp, hrp, hFp, hup, _⟩ := HFN2.out.add (tx, x)
                  have hbp := run_build_pair tx x wn
                  have HFE := Lib.hid (hFp.congr (T' := fun p => (fndP pre p ∨ (p.1 = tx ∧ p.2 ≠ tx ∧ ∃ b ∈ ([(W.heap.size + 1), W.heap.size]).take j, SxP pre key W.heap.size (W.heap.size + 1) b p.2)) ∨ (p.1 = tx ∧ p.2 ≠ tx ∧ Fb p.2 ≠ none ∧ ¬ (left p.2 ∧ p.2 ≠ x))) fun p => by
                    constructor
                    · rintro ((h | ⟨h1, h2, h3, h4⟩) | rfl)
                      · exact .inl h
                      · exact .inr ⟨h1, h2, h3, fun h => h4 h.1⟩
                      · exact .inr ⟨rfl, hxt, HFX.out, fun h => h.2 rfl⟩
                    · rintro (h | ⟨h1, h2, h3, h4⟩)
                      · exact .inl (.inl h)
                      · by_cases e : p.2 = x
                        · exact .inr (Prod.ext h1 e)
                        · exact .inl (.inr ⟨h1, h2, h3, fun h => h4 ⟨h, e⟩⟩))
                  have HRP := Lib.hid (HR1.out.upd hup (fun e => by have h1 := HBLT.out; have h2 := HBNE.out; omega) (by have h1 := HSZR.out; omega))
                  have HUP := Lib.hid (HUN.out.trans (F := fun k => k = N + 1 + 1 ∨ w5.heap.size ≤ k) hup fun k _ e => .inl e)
                  clear hFp hup
                  gi_wp2
                  go_roundw
                  case rel => exact ⟨_, cnt1, HRP.out, HFE.out, HL1.out, HUP.out⟩
                  case measure =>
                    rw [HRP.out.left_eq, HR.out.left_eq]
                    exact HLT1.out
          · have hji : ¬ (j : Int) < 2 := by omega
            obtain rfl : j = 2 := by omega
            have cB := (HBO.out.upd HUJ.out (by have := HBO.out.lt; have := HSB2.out; have := HFO.out.lt; omega)).cell
            have hkE := HKO.out.upd HUJ.out (by have := HKO.out.map.lt; omega) fun K g' hK => by
              obtain ⟨c1, c2, c3, c4, c5, c6, _⟩ := HKO.out.has K g' hK
              have h1 := c4.lt
              have h2 := c5.lt
              have h3 := c6.lt
              omega
            obtain ⟨we, hre, hKe, hue⟩ := hkE.wrote (by omega) HFK.out tx
            dsimp only at hre hue
            have HFE := Lib.hid ((HFN.out.upd hue (by have := HMB.out; omega)).congr (T' := fndP (pre ++ [⟨2, tx, key, has, data⟩])) fun p => by
              rw [fndP_snoc, List.take_of_length_le (by simp)]
              refine or_congr Iff.rfl (and_congr Iff.rfl (and_congr Iff.rfl ?_))
              constructor
              · rintro ⟨b, hb, h | h⟩
                · exact .inl h.2
                · exact .inr ⟨rfl, h.2⟩
              · rintro (h | h)
                · exact ⟨(W.heap.size + 1), by simp, .inl ⟨rfl, h⟩⟩
                · exact ⟨W.heap.size, by simp, .inr ⟨rfl, h.2⟩⟩)
            have HKE := Lib.hid (hKe.congr (rd' := rdP (pre ++ [⟨2, tx, key, has, data⟩])) (wr' := wrP (pre ++ [⟨2, tx, key, has, data⟩])) (fun K t => by rw [rdP_snoc]; simp) (fun K t => by rw [wrP_snoc]; simp))
            have HUE := Lib.hid ((HUO.out.trans (F := fun k => k = N ∨ k = N + 1 + 1 ∨ w2.heap.size + 2 ≤ k) HUJ.out fun k _ h => by omega).trans (F := fun k => k = N ∨ k = N + 1 + 1 ∨ w2.heap.size + 2 ≤ k) hue fun k _ h => by have := HMB.out; omega)
            clear hkE hKe hue
            gi_wp2
            exact ⟨⟨HUE.out.block _ (by omega) (by omega), HUE.out.block _ (by omega) (by omega)⟩, HUE.out.mono fun k _ h => by omega, ⟨_, HKE.out⟩, HFE.out, HUW.out.trans (F := fun k => k = N ∨ k = N + 1 + 1 ∨ w2.heap.size ≤ k) HUE.out fun k _ h => by omega⟩
      · have hkb : (kd == 2) = false := by simpa using hk2
        have HKO := Lib.hid (HK.out.alloc (.cells #[.map (some (W.heap.size + 1))] 62))
        have HFO := Lib.hid (HF.out.upd ((Upd.refl Nowhere W4).alloc (.cells #[.map (some (W.heap.size + 1))] 62)) id)
        have HBO := Lib.hid (HB.out.alloc (.cells #[.map (some (W.heap.size + 1))] 62))
        have H4O := Lib.hid (H4.out.alloc (.cells #[.map (some (W.heap.size + 1))] 62))
        have HUO := Lib.hid (HUX.out.alloc (.cells #[.map (some (W.heap.size + 1))] 62))
        have HROW := Lib.hid (rowOne W4 (W.heap.size + 1))
        have cgo := (HGB.out.alloc (.cells #[.map (some (W.heap.size + 1))] 62)).cell
        have cBo := HBO.out.cell
        have HWS : Hid ((W4.alloc (.cells #[.map (some (W.heap.size + 1))] 62)).heap.size = W4.heap.size + 1) := Lib.hid (by simp)
        have HSB2 : Hid (N + 1 + 1 < Bx) := Lib.hid (by omega)
        have HELN : Hid (∀ k, (Value.slice (some ⟨W4.heap.size, 0, none⟩) 1 1).ownBlock = some k → N + 1 + 1 < k ∧ k < (W4.alloc (.cells #[.map (some (W.heap.size + 1))] 62)).heap.size) := Lib.hid fun k hk => by cases hk; have := HWS.out; have := HRW.out; simp; omega
        have HLT : Hid (∀ b ∈ [(W.heap.size + 1)], w2.heap.size + 2 ≤ b ∧ b < (W4.alloc (.cells #[.map (some (W.heap.size + 1))] 62)).heap.size) := Lib.hid fun b hb => by rw [List.mem_singleton] at hb; subst hb; have := HRW.out; simp; omega
        have HBNE : Hid (N + 1 + 1 < w2.heap.size) := Lib.hid (by omega)
        have HMB : Hid (w2.heap.size + 2 ≤ W.heap.size) := Lib.hid HRW.out.1
        have HSET : Hid (∀ b ∈ [(W.heap.size + 1)], SetAt (W4.alloc (.cells #[.map (some (W.heap.size + 1))] 62)) b (SxP pre key W.heap.size (W.heap.size + 1) b)) := Lib.hid fun b hb => by
          obtain ⟨_, _, _, _, h5, h6, h7⟩ := HKO.out.has key _ HFK.out
          simp only [List.mem_cons, List.not_mem_nil, or_false] at hb
          rcases hb with rfl
          exact h6.congr fun t => ⟨fun h => .inl ⟨rfl, h⟩, fun h => h.elim (fun h => h.2) fun h => absurd h.1.symm HRW.out.2.2.1⟩
        have HEL := Lib.hid HROW.out.els
        have hsW := HUO.out.size
        gi_wp2
        clear cg cB cX3 cX4 cgo cBo hlk hra cBn cXn cB4
        gi_loopw [57] (fun s wr => ∃ j : Nat, j ≤ 1 ∧ s = .int .i64 j ∧ FndAt wr (N + 1 + 1) (fun p => fndP pre p ∨ (p.1 = tx ∧ p.2 ≠ tx ∧ ∃ b ∈ ([(W.heap.size + 1)]).take j, SxP pre key W.heap.size (W.heap.size + 1) b p.2)) ∧ Upd (fun k => k = N + 1 + 1 ∨ (W4.alloc (.cells #[.map (some (W.heap.size + 1))] 62)).heap.size ≤ k) (W4.alloc (.cells #[.map (some (W.heap.size + 1))] 62)) wr) (fun s _ => 1 - (intOf s).toNat)
        case atStart => exact ⟨0, by omega, rfl, HFO.out.congr fun p => by simp, Upd.refl _ _⟩
        case round =>
          obtain ⟨j, hj, rfl, hfn, hu⟩ := hrel
          have HFN := Lib.hid hfn
          have HUJ := Lib.hid hu
          clear hfn hu
          by_cases hjl : j < 1
          · have hji : (j : Int) < 1 := by omega
            obtain ⟨b, hb⟩ : ∃ b, ([(W.heap.size + 1)])[j]? = some b := ⟨_, List.getElem?_eq_getElem (by simp; omega)⟩
            obtain ⟨b7, o7, c7, hE7, hb7, q7⟩ := (HEL.out.upd HUJ.out fun k hk e => by have := HELN.out k hk; omega).get (fun _ => rfl) hb
            have q7 : wr.cell? ⟨b7, o7 + j, none⟩ = some (.map (some b)) := by have := q7 0 (by omega); simpa using this
            cases hE7
            try rw [Nat.zero_add] at q7
            have HJB := Lib.hid hb
            obtain ⟨Fb, hmb, hSb⟩ := (HSET.out b (List.mem_of_getElem? hb)).upd HUJ.out (by
              have := HLT.out b (List.mem_of_getElem? hb)
              have := HFO.out.lt
              omega)
            obtain ⟨w3, cnt0, hrun0, hR0, hU0, hsz0⟩ := hmb.range (P := Try.prog) (t := 62) Try.underlying62
            have HR0 := Lib.hid hR0
            have HFR := Lib.hid (HFN.out.upd hU0 id)
            have HUR := Lib.hid (HUJ.out.trans (F := fun k => k = N + 1 + 1 ∨ (W4.alloc (.cells #[.map (some (W.heap.size + 1))] 62)).heap.size ≤ k) hU0 fun _ _ h => h.elim)
            have HSB := Lib.hid hSb
            have HSZR := Lib.hid HUJ.out.size
            have HBLT := Lib.hid (HLT.out b (List.mem_of_getElem? hb))
            clear hmb hR0 hU0 hsz0 hSb hb
            gi_wp2
            clear q7 hrun0
            gi_loopw [11] (fun _ wz => ∃ (left : Int → Prop) (cnt : Nat), RangeIs encI wz wr.heap.size b Fb left cnt ∧ FndAt wz (N + 1 + 1) (fun p => (fndP pre p ∨ (p.1 = tx ∧ p.2 ≠ tx ∧ ∃ b ∈ ([(W.heap.size + 1)]).take j, SxP pre key W.heap.size (W.heap.size + 1) b p.2)) ∨ (p.1 = tx ∧ p.2 ≠ tx ∧ Fb p.2 ≠ none ∧ ¬ left p.2)) ∧ (∀ t, left t → Fb t ≠ none) ∧ Upd (fun k => k = N + 1 + 1 ∨ (W4.alloc (.cells #[.map (some (W.heap.size + 1))] 62)).heap.size ≤ k) (W4.alloc (.cells #[.map (some (W.heap.size + 1))] 62)) wz) (fun _ wz => wz.rangeLeft b wr.heap.size)
            case atStart => exact ⟨_, cnt0, HR0.out, HFR.out.congr fun p => ⟨.inl, fun h => h.elim id fun h => absurd h.2.2.1 h.2.2.2⟩, fun _ h => h, HUR.out⟩
            case round =>
              obtain ⟨left, cnt, hR, hfz, hlf, huz⟩ := hrel
              have HR := Lib.hid hR
              have HFZ := Lib.hid hfz
              have HLF := Lib.hid hlf
              have HUZ := Lib.hid huz
              clear hR hfz hlf huz
              rcases HR.out.next (P := Try.prog) KI 0 with ⟨h0, hno, hrun⟩ | ⟨x, vx, wn, cnt1, hfx, hlx, hrun, hR1, hlt1, hu1, hsz1, hen⟩
              · have HFD := Lib.hid (HFZ.out.congr (T' := fun p => fndP pre p ∨ (p.1 = tx ∧ p.2 ≠ tx ∧ ∃ b ∈ ([(W.heap.size + 1)]).take (j + 1), SxP pre key W.heap.size (W.heap.size + 1) b p.2)) fun p => by
                  rw [List.take_add_one, HJB.out]
                  simp only [Option.toList_some, List.mem_append, List.mem_singleton]
                  constructor
                  · rintro ((h | ⟨h1, h2, b', h3, h4⟩) | ⟨h1, h2, h3, _⟩)
                    · exact .inl h
                    · exact .inr ⟨h1, h2, b', .inl h3, h4⟩
                    · exact .inr ⟨h1, h2, b, .inr rfl, (HSB.out _).1 h3⟩
                  · rintro (h | ⟨h1, h2, b', h3 | h3, h4⟩)
                    · exact .inl (.inl h)
                    · exact .inl (.inr ⟨h1, h2, b', h3, h4⟩)
                    · subst h3
                      exact .inr ⟨h1, h2, (HSB.out _).2 h4, hno _⟩)
                clear hno
                gi_wp2
                go_roundw
                case rel => exact ⟨j + 1, by omega, by go_num, HFD.out, HUZ.out⟩
                case measure => simp [intOf]; omega
              · have HFN2 := Lib.hid (HFZ.out.upd hu1 fun e => by have h1 := HSZR.out; have h2 := HFO.out.lt; omega)
                have HR1 := Lib.hid hR1
                have HUN := Lib.hid (HUZ.out.trans (F := fun k => k = N + 1 + 1 ∨ (W4.alloc (.cells #[.map (some (W.heap.size + 1))] 62)).heap.size ≤ k) hu1 fun k _ e => .inr (by have h1 := HSZR.out; omega))
                have HLT1 := Lib.hid hlt1
                have HFX : Hid (Fb x ≠ none) := Lib.hid (by rw [hfx]; simp)
                have HL1 : Hid (∀ t, (left t ∧ t ≠ x) → Fb t ≠ none) := Lib.hid fun t h => HLF.out t h.1
                have hsO := HFO.out.lt
                have cB := (HBO.out.upd HUN.out (by have := HBO.out.lt; have := HSB2.out; omega)).cell
                have cX4 := (H4O.out.upd HUN.out (by have := H4O.out.lt; omega)).cell
                clear hfx hlx hR1 hlt1 hu1 hsz1
                by_cases hxt : x = tx
                · have hxb : (x != tx) = false := by simp [hxt]
                  have HFE := Lib.hid (HFN2.out.congr (T' := fun p => (fndP pre p ∨ (p.1 = tx ∧ p.2 ≠ tx ∧ ∃ b ∈ ([(W.heap.size + 1)]).take j, SxP pre key W.heap.size (W.heap.size + 1) b p.2)) ∨ (p.1 = tx ∧ p.2 ≠ tx ∧ Fb p.2 ≠ none ∧ ¬ (left p.2 ∧ p.2 ≠ x))) fun p => by
                    refine or_congr Iff.rfl ⟨fun ⟨h1, h2, h3, h4⟩ => ⟨h1, h2, h3, fun h => h4 h.1⟩, fun ⟨h1, h2, h3, h4⟩ => ⟨h1, h2, h3, fun h => h4 ⟨h, by rw [hxt]; exact h2⟩⟩⟩)
                  gi_wp2
                  go_roundw
                  case rel => exact ⟨_, cnt1, HR1.out, HFE.out, HL1.out, HUN.out⟩
                  case measure =>
                    rw [HR1.out.left_eq, HR.out.left_eq]
                    exact HLT1.out
                · have hxb : (x != tx) = true := by simpa using hxt
                  obtain ⟨wp, hrp, hFp, hup, _⟩ := HFN2.out.add (tx, x)
                  have hbp := run_build_pair tx x wn
                  have HFE := Lib.hid (hFp.congr (T' := fun p => (fndP pre p ∨ (p.1 = tx ∧ p.2 ≠ tx ∧ ∃ b ∈ ([(W.heap.size + 1)]).take j, SxP pre key W.heap.size (W.heap.size + 1) b p.2)) ∨ (p.1 = tx ∧ p.2 ≠ tx ∧ Fb p.2 ≠ none ∧ ¬ (left p.2 ∧ p.2 ≠ x))) fun p => by
                    constructor
                    · rintro ((h | ⟨h1, h2, h3, h4⟩) | rfl)
                      · exact .inl h
                      · exact .inr ⟨h1, h2, h3, fun h => h4 h.1⟩
                      · exact .inr ⟨rfl, hxt, HFX.out, fun h => h.2 rfl⟩
                    · rintro (h | ⟨h1, h2, h3, h4⟩)
                      · exact .inl (.inl h)
                      · by_cases e : p.2 = x
                        · exact .inr (Prod.ext h1 e)
                        · exact .inl (.inr ⟨h1, h2, h3, fun h => h4 ⟨h, e⟩⟩))
                  have HRP := Lib.hid (HR1.out.upd hup (fun e => by have h1 := HBLT.out; have h2 := HBNE.out; omega) (by have h1 := HSZR.out; omega))
                  have HUP := Lib.hid (HUN.out.trans (F := fun k => k = N + 1 + 1 ∨ (W4.alloc (.cells #[.map (some (W.heap.size + 1))] 62)).heap.size ≤ k) hup fun k _ e => .inl e)
                  clear hFp hup
                  gi_wp2
                  go_roundw
                  case rel => exact ⟨_, cnt1, HRP.out, HFE.out, HL1.out, HUP.out⟩
                  case measure =>
                    rw [HRP.out.left_eq, HR.out.left_eq]
                    exact HLT1.out
          · have hji : ¬ (j : Int) < 1 := by omega
            obtain rfl : j = 1 := by omega
            have cB := (HBO.out.upd HUJ.out (by have := HBO.out.lt; have := HSB2.out; have := HFO.out.lt; omega)).cell
            have hkE := HKO.out.upd HUJ.out (by have := HKO.out.map.lt; omega) fun K g' hK => by
              obtain ⟨c1, c2, c3, c4, c5, c6, _⟩ := HKO.out.has K g' hK
              have h1 := c4.lt
              have h2 := c5.lt
              have h3 := c6.lt
              omega
            obtain ⟨we, hre, hKe, hue⟩ := hkE.read (by omega) HFK.out tx
            dsimp only at hre hue
            have HFE := Lib.hid ((HFN.out.upd hue (by have := HMB.out; omega)).congr (T' := fndP (pre ++ [⟨kd, tx, key, has, data⟩])) fun p => by
              rw [fndP_snoc, List.take_of_length_le (by simp)]
              refine or_congr Iff.rfl (and_congr Iff.rfl (and_congr Iff.rfl ?_))
              constructor
              · rintro ⟨b, hb, h | h⟩
                · exact .inl h.2
                · rw [List.mem_singleton] at hb
                  exact absurd (h.1.symm.trans hb) HRW.out.2.2.1
              · rintro (h | h)
                · exact ⟨(W.heap.size + 1), List.mem_singleton.2 rfl, .inl ⟨rfl, h⟩⟩
                · exact absurd h.1 hk2)
            have HKE := Lib.hid (hKe.congr (rd' := rdP (pre ++ [⟨kd, tx, key, has, data⟩])) (wr' := wrP (pre ++ [⟨kd, tx, key, has, data⟩])) (fun K t => by rw [rdP_snoc]; simp [hk2]) (fun K t => by rw [wrP_snoc]; simp [hk2]))
            have HUE := Lib.hid ((HUO.out.trans (F := fun k => k = N ∨ k = N + 1 + 1 ∨ w2.heap.size + 2 ≤ k) HUJ.out fun k _ h => by omega).trans (F := fun k => k = N ∨ k = N + 1 + 1 ∨ w2.heap.size + 2 ≤ k) hue fun k _ h => by have := HMB.out; omega)
            clear hkE hKe hue
            gi_wp2
            exact ⟨⟨HUE.out.block _ (by omega) (by omega), HUE.out.block _ (by omega) (by omega)⟩, HUE.out.mono fun k _ h => by omega, ⟨_, HKE.out⟩, HFE.out, HUW.out.trans (F := fun k => k = N ∨ k = N + 1 + 1 ∨ w2.heap.size ≤ k) HUE.out fun k _ h => by omega⟩
    | some g =>
      obtain ⟨g, rm, wm⟩ := g
      rw [hfk] at hlk
      simp only [Option.map_some, Option.getD_some] at hlk
      obtain ⟨_, hrB, hwB, hgb, hsr, hsw, hrw⟩ := HK.out.has key _ hfk
      dsimp only at hgb hrB hwB hsr hsw hrw
      have HFK := Lib.hid hfk
      have HGB := Lib.hid hgb
      have HRW := Lib.hid (show w2.heap.size + 2 ≤ rm ∧ w2.heap.size + 2 ≤ wm ∧ rm ≠ wm ∧ rm < W.heap.size ∧ wm < W.heap.size ∧ w2.heap.size + 2 ≤ W.heap.size from ⟨hrB, hwB, hrw, hsr.lt, hsw.lt, hsz⟩)
      have HUX := Lib.hid (Upd.refl (fun k => k = N ∨ k = N + 1 + 1 ∨ w2.heap.size + 2 ≤ k) W)
      have cg := hgb.cell
      clear hfk hgb hrB hwB hsr hsw hrw
      by_cases hk2 : kd = 2
      · subst hk2
        have HRO : Hid (OwnR 62 mapC 1 W.heap.size (W.alloc (.cells #[.map (some wm)] 62)).drew (.slice (some ⟨W.heap.size, 0, none⟩) 1 1) [wm]) := Lib.hid ((rowOne W wm).upd (Upd.refl Nowhere _).drew fun _ _ => id)
        have cgo := (HGB.out.alloc (.cells #[.map (some wm)] 62)).cell
        have cBo := (HB.out.alloc (.cells #[.map (some wm)] 62)).cell
        obtain ⟨v5, w5, hr5, ho5, hg5, hb5⟩ := rkM.app1 HRO.out (by simp) 65 rm #[.map (some rm)] rfl (by simp)
        obtain ⟨A7, c7, rfl, hc7⟩ := ho5.els.val
        have HU5 : Hid (Upd Nowhere W w5) := Lib.hid (((Upd.refl Nowhere W).alloc (.cells #[.map (some wm)] 62)).drew.grown hg5 fun k hk h => by cases hk; simp at h)
        have HR5 : Hid ((Builtin.append_ #[65, 65] 65 #[.slice (some ⟨W.heap.size, 0, none⟩) 1 1, .slice (some ⟨W.heap.size + 1, 0, none⟩) 1 1]).run Try.prog ((W.alloc (.cells #[.map (some wm)] 62)).alloc (.cells #[.map (some rm)] 62)).drew = .ok (.slice A7 2 c7) w5) := Lib.hid (by rw [← show (W.alloc (.cells #[.map (some wm)] 62)).heap.size = W.heap.size + 1 by simp]; exact hr5)
        have HEL5 : Hid (Els 1 mapC w5 (.slice A7 2 c7) [wm, rm]) := Lib.hid ho5.els
        have HELN : Hid (∀ k, (Value.slice A7 2 c7).ownBlock = some k → N + 1 + 1 < k ∧ k < w5.heap.size) := Lib.hid fun k hk => by have h1 := ho5.new k hk; have h2 := ho5.lt hk; have := HRW.out; omega
        have HKO := Lib.hid (HK.out.upd HU5.out id fun _ _ _ => ⟨id, id, id⟩)
        have HFO := Lib.hid (HF.out.upd HU5.out id)
        have HBO := Lib.hid (HB.out.upd HU5.out id)
        have H4O := Lib.hid (H4.out.upd HU5.out id)
        have HUO := Lib.hid (HUX.out.trans (F := (fun k => k = N ∨ k = N + 1 + 1 ∨ w2.heap.size + 2 ≤ k)) HU5.out fun _ _ h => h.elim)
        have HSB2 : Hid (N + 1 + 1 < Bx) := Lib.hid (by omega)
        have HLT : Hid (∀ b ∈ [wm, rm], w2.heap.size + 2 ≤ b ∧ b < w5.heap.size) := Lib.hid fun b hb => by
          have h1 := HRW.out
          have h2 := HU5.out.size
          simp only [List.mem_cons, List.not_mem_nil, or_false] at hb
          rcases hb with rfl | rfl <;> omega
        have HBNE : Hid (N + 1 + 1 < w2.heap.size) := Lib.hid (by omega)
        have HMB : Hid (w2.heap.size + 2 ≤ wm) := Lib.hid HRW.out.2.1
        have KA : Hid ((fun w' : World => w'.cell? ⟨g, 0, none⟩ = some (.map (some rm)) ∧ w'.cell? ⟨g, 1, none⟩ = some (.map (some wm))) ((W.alloc (.cells #[.map (some wm)] 62)).alloc (.cells #[.map (some rm)] 62)).drew) := Lib.hid ⟨((HGB.out.alloc _).alloc _).cell 0, ((HGB.out.alloc _).alloc _).cell 1⟩
        have K1 : Hid ((fun w' : World => w'.cell? ⟨g, 0, none⟩ = some (.map (some rm)) ∧ w'.cell? ⟨g, 1, none⟩ = some (.map (some wm))) w5) := Lib.hid ⟨(HGB.out.upd HU5.out id).cell 0, (HGB.out.upd HU5.out id).cell 1⟩
        have K0 : (fun w' : World => w'.cell? ⟨g, 0, none⟩ = some (.map (some rm)) ∧ w'.cell? ⟨g, 1, none⟩ = some (.map (some wm))) (W.alloc (.cells #[.map (some wm)] 62)) := ⟨(HGB.out.alloc _).cell 0, (HGB.out.alloc _).cell 1⟩
        clear hr5 ho5 hg5 hb5 hc7
        gi_wp2
        refine wpIn_region_held_plain (S := fun w' : World => w'.cell? ⟨g, 0, none⟩ = some (.map (some rm)) ∧ w'.cell? ⟨g, 1, none⟩ = some (.map (some wm))) (fun ⟨_, _, h⟩ => h) (by kernel_rfl) (by kernel_rfl) K0 (fun hHeld => ?_)
        refine wpAnyH_take (i := 0) (v := ?vv0a) rfl (by kernel_rfl) (by kernel_rfl) (by kernel_rfl) (fun _ _ _ h => h) (Or.inl ⟨by rfl, ?hy0a⟩) hHeld ?rest0a
        case hy0a =>
          intro W' hSw
          try dsimp only at hSw
          obtain ⟨s0, s1⟩ := hSw
          go_simp
          try with_reducible rfl
        case' rest0a => simp only [Act.put, List.setIfInBounds_toArray]
        refine wpAnyH_take (i := 1) (v := ?vv1a) rfl (by kernel_rfl) (by kernel_rfl) (by kernel_rfl) (fun _ _ _ h => h) (Or.inl ⟨by rfl, ?hy1a⟩) hHeld ?rest1a
        case hy1a =>
          intro W' hSw
          try dsimp only at hSw
          obtain ⟨s0, s1⟩ := hSw
          go_simp
          try with_reducible rfl
        case' rest1a => simp only [Act.put]
        refine wpAnyH_take (i := 2) (v := ?vv2a) rfl (by kernel_rfl) (by kernel_rfl) (by kernel_rfl) (fun _ _ _ h => h) (Or.inl ⟨by rfl, ?hy2a⟩) hHeld ?rest2a
        case hy2a =>
          intro W' hSw
          try dsimp only at hSw
          obtain ⟨s0, s1⟩ := hSw
          go_simp
          try with_reducible rfl
        case' rest2a => simp only [Act.put]
        refine wpAnyH_take (i := 3) (v := ?vv3a) rfl (by kernel_rfl) (by kernel_rfl) (by kernel_rfl) (fun _ _ _ h => h) (Or.inl ⟨by rfl, ?hy3a⟩) hHeld ?rest3a
        case hy3a =>
          intro W' hSw
          try dsimp only at hSw
          obtain ⟨s0, s1⟩ := hSw
          go_simp
          try with_reducible rfl
        case' rest3a => simp only [Act.put]
        refine wpAnyH_take (i := 4) (v := ?vv4a) rfl (by kernel_rfl) (by kernel_rfl) (by kernel_rfl) (fun _ _ _ h => h) (Or.inl ⟨by rfl, ?hy4a⟩) hHeld ?rest4a
        case hy4a =>
          intro W' hSw
          try dsimp only at hSw
          obtain ⟨s0, s1⟩ := hSw
          go_simp
          try with_reducible rfl
        case' rest4a => simp only [Act.put]
        refine wpAnyH_take (i := 7) (v := ?vv7a) rfl (by kernel_rfl) (by kernel_rfl) (by kernel_rfl) (fun _ _ _ h => h) (Or.inl ⟨by rfl, ?hy7a⟩) hHeld ?rest7a
        case hy7a =>
          intro W' hSw
          try dsimp only at hSw
          obtain ⟨s0, s1⟩ := hSw
          go_simp
          try with_reducible rfl
        case' rest7a => simp only [Act.put]
        refine wpAnyH_take (i := 8) (v := ?vv8a) rfl (by kernel_rfl) (by kernel_rfl) (by kernel_rfl) (fun _ _ _ h => h) (Or.inl ⟨by rfl, ?hy8a⟩) hHeld ?rest8a
        case hy8a =>
          intro W' hSw
          try dsimp only at hSw
          obtain ⟨s0, s1⟩ := hSw
          go_simp
          try with_reducible rfl
        case' rest8a => simp only [Act.put]
        refine wpAnyH_take (i := 9) (v := ?vv9a) rfl (by kernel_rfl) (by kernel_rfl) (by kernel_rfl) (fun _ _ _ h => h) (Or.inl ⟨by rfl, ?hy9a⟩) hHeld ?rest9a
        case hy9a =>
          intro W' hSw
          try dsimp only at hSw
          obtain ⟨s0, s1⟩ := hSw
          go_simp
          try with_reducible rfl
        case' rest9a => simp only [Act.put]
        refine wpAnyH_take (i := 10) (v := ?vv10a) rfl (by kernel_rfl) (by kernel_rfl) (by kernel_rfl) (fun _ _ _ h => h) (Or.inl ⟨by rfl, ?hy10a⟩) hHeld ?rest10a
        case hy10a =>
          intro W' hSw
          try dsimp only at hSw
          obtain ⟨s0, s1⟩ := hSw
          go_simp
          try with_reducible rfl
        case' rest10a => simp only [Act.put]
        refine wpAnyH_ready (rs := [5]) (by kernel_rfl) (by simp) ?_
        refine AllReadyH.cons rfl (fun K hK => ?_) AllReadyH.nil
        go_simp
        refine hK.out _ _ KA.out (fun hHeld => ?_)
        clear hK K
        try simp only [Act.put, List.setIfInBounds_toArray, List.set_cons_zero, List.set_cons_succ]
        refine wpAnyH_ready (rs := [6]) (by kernel_rfl) (by simp) ?_
        refine AllReadyH.cons rfl (fun K hK => ?_) AllReadyH.nil
        refine step_append_run rfl _ _ _ rfl rfl rfl HR5.out ?_
        refine hK.out _ _ K1.out (fun hHeld => ?_)
        clear hK K
        try simp only [Act.put, List.setIfInBounds_toArray]
        refine wpAnyH_ready (rs := [11]) (by kernel_rfl) (by simp) ?_
        refine AllReadyH.cons rfl (fun K hK => ?_) AllReadyH.nil
        go_simp
        refine hK.out _ _ K1.out (fun hHeld => ?_)
        clear hK K
        try simp only [Act.put, List.setIfInBounds_toArray, List.set_cons_zero, List.set_cons_succ]
        refine wpAnyH_ready (rs := [12]) (by kernel_rfl) (by simp) ?_
        refine AllReadyH.cons rfl (fun K hK => ?_) AllReadyH.nil
        go_simp
        refine hK.out _ _ K1.out (fun hHeld => ?_)
        clear hK K
        try simp only [Act.put, List.setIfInBounds_toArray, List.set_cons_zero, List.set_cons_succ]
        refine wpAnyH_done (by kernel_rfl) ?_ _
        have HSET : Hid (∀ b ∈ [wm, rm], SetAt w5 b (SxP pre key rm wm b)) := Lib.hid fun b hb => by
          obtain ⟨_, _, _, _, h5, h6, h7⟩ := HKO.out.has key _ HFK.out
          simp only [List.mem_cons, List.not_mem_nil, or_false] at hb
          rcases hb with rfl | rfl
          · exact h6.congr fun t => ⟨fun h => .inl ⟨rfl, h⟩, fun h => h.elim (fun h => h.2) fun h => absurd h.1.symm HRW.out.2.2.1⟩
          · exact h5.congr fun t => ⟨fun h => .inr ⟨rfl, h⟩, fun h => h.elim (fun h => absurd h.1 HRW.out.2.2.1) fun h => h.2⟩
        have HEL := Lib.hid HEL5.out
        have hsW := HUO.out.size
        gi_wp2
        clear cg cB cX3 cX4 cgo cBo hlk
        gi_loopw [57] (fun s wr => ∃ j : Nat, j ≤ 2 ∧ s = .int .i64 j ∧ FndAt wr (N + 1 + 1) (fun p => fndP pre p ∨ (p.1 = tx ∧ p.2 ≠ tx ∧ ∃ b ∈ ([wm, rm]).take j, SxP pre key rm wm b p.2)) ∧ Upd (fun k => k = N + 1 + 1 ∨ w5.heap.size ≤ k) w5 wr) (fun s _ => 2 - (intOf s).toNat)
        case atStart => exact ⟨0, by omega, rfl, HFO.out.congr fun p => by simp, Upd.refl _ _⟩
        case round =>
          obtain ⟨j, hj, rfl, hfn, hu⟩ := hrel
          have HFN := Lib.hid hfn
          have HUJ := Lib.hid hu
          clear hfn hu
          by_cases hjl : j < 2
          · have hji : (j : Int) < 2 := by omega
            obtain ⟨b, hb⟩ : ∃ b, ([wm, rm])[j]? = some b := ⟨_, List.getElem?_eq_getElem (by simp; omega)⟩
            obtain ⟨b7, o7, c7, hE7, hb7, q7⟩ := (HEL.out.upd HUJ.out fun k hk e => by have := HELN.out k hk; omega).get (fun _ => rfl) hb
            have q7 : wr.cell? ⟨b7, o7 + j, none⟩ = some (.map (some b)) := by have := q7 0 (by omega); simpa using this
            cases hE7
            try rw [Nat.zero_add] at q7
            have HJB := Lib.hid hb
            obtain ⟨Fb, hmb, hSb⟩ := (HSET.out b (List.mem_of_getElem? hb)).upd HUJ.out (by
              have := HLT.out b (List.mem_of_getElem? hb)
              have := HFO.out.lt
              omega)
            obtain ⟨w3, cnt0, hrun0, hR0, hU0, hsz0⟩ := hmb.range (P := Try.prog) (t := 62) Try.underlying62
            have HR0 := Lib.hid hR0
            have HFR := Lib.hid (HFN.out.upd hU0 id)
            have HUR := Lib.hid (HUJ.out.trans (F := fun k => k = N + 1 + 1 ∨ w5.heap.size ≤ k) hU0 fun _ _ h => h.elim)
            have HSB := Lib.hid hSb
            have HSZR := Lib.hid HUJ.out.size
            have HBLT := Lib.hid (HLT.out b (List.mem_of_getElem? hb))
            clear hmb hR0 hU0 hsz0 hSb hb
            gi_wp2
            clear q7 hrun0
            gi_loopw [11] (fun _ wz => ∃ (left : Int → Prop) (cnt : Nat), RangeIs encI wz wr.heap.size b Fb left cnt ∧ FndAt wz (N + 1 + 1) (fun p => (fndP pre p ∨ (p.1 = tx ∧ p.2 ≠ tx ∧ ∃ b ∈ ([wm, rm]).take j, SxP pre key rm wm b p.2)) ∨ (p.1 = tx ∧ p.2 ≠ tx ∧ Fb p.2 ≠ none ∧ ¬ left p.2)) ∧ (∀ t, left t → Fb t ≠ none) ∧ Upd (fun k => k = N + 1 + 1 ∨ w5.heap.size ≤ k) w5 wz) (fun _ wz => wz.rangeLeft b wr.heap.size)
            case atStart => exact ⟨_, cnt0, HR0.out, HFR.out.congr fun p => ⟨.inl, fun h => h.elim id fun h => absurd h.2.2.1 h.2.2.2⟩, fun _ h => h, HUR.out⟩
            case round =>
              obtain ⟨left, cnt, hR, hfz, hlf, huz⟩ := hrel
              have HR := Lib.hid hR
              have HFZ := Lib.hid hfz
              have HLF := Lib.hid hlf
              have HUZ := Lib.hid huz
              clear hR hfz hlf huz
              rcases HR.out.next (P := Try.prog) KI 0 with ⟨h0, hno, hrun⟩ | ⟨x, vx, wn, cnt1, hfx, hlx, hrun, hR1, hlt1, hu1, hsz1, hen⟩
              · have HFD := Lib.hid (HFZ.out.congr (T' := fun p => fndP pre p ∨ (p.1 = tx ∧ p.2 ≠ tx ∧ ∃ b ∈ ([wm, rm]).take (j + 1), SxP pre key rm wm b p.2)) fun p => by
                  rw [List.take_add_one, HJB.out]
                  simp only [Option.toList_some, List.mem_append, List.mem_singleton]
                  constructor
                  · rintro ((h | ⟨h1, h2, b', h3, h4⟩) | ⟨h1, h2, h3, _⟩)
                    · exact .inl h
                    · exact .inr ⟨h1, h2, b', .inl h3, h4⟩
                    · exact .inr ⟨h1, h2, b, .inr rfl, (HSB.out _).1 h3⟩
                  · rintro (h | ⟨h1, h2, b', h3 | h3, h4⟩)
                    · exact .inl (.inl h)
                    · exact .inl (.inr ⟨h1, h2, b', h3, h4⟩)
                    · subst h3
                      exact .inr ⟨h1, h2, (HSB.out _).2 h4, hno _⟩)
                clear hno
                gi_wp2
                go_roundw
                case rel => exact ⟨j + 1, by omega, by go_num, HFD.out, HUZ.out⟩
                case measure => simp [intOf]; omega
              · have HFN2 := Lib.hid (HFZ.out.upd hu1 fun e => by have h1 := HSZR.out; have h2 := HFO.out.lt; omega)
                have HR1 := Lib.hid hR1
                have HUN := Lib.hid (HUZ.out.trans (F := fun k => k = N + 1 + 1 ∨ w5.heap.size ≤ k) hu1 fun k _ e => .inr (by have h1 := HSZR.out; omega))
                have HLT1 := Lib.hid hlt1
                have HFX : Hid (Fb x ≠ none) := Lib.hid (by rw [hfx]; simp)
                have HL1 : Hid (∀ t, (left t ∧ t ≠ x) → Fb t ≠ none) := Lib.hid fun t h => HLF.out t h.1
                have hsO := HFO.out.lt
                have cB := (HBO.out.upd HUN.out (by have := HBO.out.lt; have := HSB2.out; omega)).cell
                have cX4 := (H4O.out.upd HUN.out (by have := H4O.out.lt; omega)).cell
                clear hfx hlx hR1 hlt1 hu1 hsz1
                by_cases hxt : x = tx
                · have hxb : (x != tx) = false := by simp [hxt]
                  have HFE := Lib.hid (HFN2.out.congr (T' := fun p => (fndP pre p ∨ (p.1 = tx ∧ p.2 ≠ tx ∧ ∃ b ∈ ([wm, rm]).take j, SxP pre key rm wm b p.2)) ∨ (p.1 = tx ∧ p.2 ≠ tx ∧ Fb p.2 ≠ none ∧ ¬ (left p.2 ∧ p.2 ≠ x))) fun p => by
                    refine or_congr Iff.rfl ⟨fun ⟨h1, h2, h3, h4⟩ => ⟨h1, h2, h3, fun h => h4 h.1⟩, fun ⟨h1, h2, h3, h4⟩ => ⟨h1, h2, h3, fun h => h4 ⟨h, by rw [hxt]; exact h2⟩⟩⟩)
                  gi_wp2
                  go_roundw
                  case rel => exact ⟨_, cnt1, HR1.out, HFE.out, HL1.out, HUN.out⟩
                  case measure =>
                    rw [HR1.out.left_eq, HR.out.left_eq]
                    exact HLT1.out
                · have hxb : (x != tx) = true := by simpa using hxt
                  obtain ⟨wp, hrp, hFp, hup, _⟩ := HFN2.out.add (tx, x)
                  have hbp := run_build_pair tx x wn
                  have HFE := Lib.hid (hFp.congr (T' := fun p => (fndP pre p ∨ (p.1 = tx ∧ p.2 ≠ tx ∧ ∃ b ∈ ([wm, rm]).take j, SxP pre key rm wm b p.2)) ∨ (p.1 = tx ∧ p.2 ≠ tx ∧ Fb p.2 ≠ none ∧ ¬ (left p.2 ∧ p.2 ≠ x))) fun p => by
                    constructor
                    · rintro ((h | ⟨h1, h2, h3, h4⟩) | rfl)
                      · exact .inl h
                      · exact .inr ⟨h1, h2, h3, fun h => h4 h.1⟩
                      · exact .inr ⟨rfl, hxt, HFX.out, fun h => h.2 rfl⟩
                    · rintro (h | ⟨h1, h2, h3, h4⟩)
                      · exact .inl (.inl h)
                      · by_cases e : p.2 = x
                        · exact .inr (Prod.ext h1 e)
                        · exact .inl (.inr ⟨h1, h2, h3, fun h => h4 ⟨h, e⟩⟩))
                  have HRP := Lib.hid (HR1.out.upd hup (fun e => by have h1 := HBLT.out; have h2 := HBNE.out; omega) (by have h1 := HSZR.out; omega))
                  have HUP := Lib.hid (HUN.out.trans (F := fun k => k = N + 1 + 1 ∨ w5.heap.size ≤ k) hup fun k _ e => .inl e)
                  clear hFp hup
                  gi_wp2
                  go_roundw
                  case rel => exact ⟨_, cnt1, HRP.out, HFE.out, HL1.out, HUP.out⟩
                  case measure =>
                    rw [HRP.out.left_eq, HR.out.left_eq]
                    exact HLT1.out
          · have hji : ¬ (j : Int) < 2 := by omega
            obtain rfl : j = 2 := by omega
            have cB := (HBO.out.upd HUJ.out (by have := HBO.out.lt; have := HSB2.out; have := HFO.out.lt; omega)).cell
            have hkE := HKO.out.upd HUJ.out (by have := HKO.out.map.lt; omega) fun K g' hK => by
              obtain ⟨c1, c2, c3, c4, c5, c6, _⟩ := HKO.out.has K g' hK
              have h1 := c4.lt
              have h2 := c5.lt
              have h3 := c6.lt
              omega
            obtain ⟨we, hre, hKe, hue⟩ := hkE.wrote (by omega) HFK.out tx
            dsimp only at hre hue
            have HFE := Lib.hid ((HFN.out.upd hue (by have := HMB.out; omega)).congr (T' := fndP (pre ++ [⟨2, tx, key, has, data⟩])) fun p => by
              rw [fndP_snoc, List.take_of_length_le (by simp)]
              refine or_congr Iff.rfl (and_congr Iff.rfl (and_congr Iff.rfl ?_))
              constructor
              · rintro ⟨b, hb, h | h⟩
                · exact .inl h.2
                · exact .inr ⟨rfl, h.2⟩
              · rintro (h | h)
                · exact ⟨wm, by simp, .inl ⟨rfl, h⟩⟩
                · exact ⟨rm, by simp, .inr ⟨rfl, h.2⟩⟩)
            have HKE := Lib.hid (hKe.congr (rd' := rdP (pre ++ [⟨2, tx, key, has, data⟩])) (wr' := wrP (pre ++ [⟨2, tx, key, has, data⟩])) (fun K t => by rw [rdP_snoc]; simp) (fun K t => by rw [wrP_snoc]; simp))
            have HUE := Lib.hid ((HUO.out.trans (F := fun k => k = N ∨ k = N + 1 + 1 ∨ w2.heap.size + 2 ≤ k) HUJ.out fun k _ h => by omega).trans (F := fun k => k = N ∨ k = N + 1 + 1 ∨ w2.heap.size + 2 ≤ k) hue fun k _ h => by have := HMB.out; omega)
            clear hkE hKe hue
            gi_wp2
            exact ⟨⟨HUE.out.block _ (by omega) (by omega), HUE.out.block _ (by omega) (by omega)⟩, HUE.out.mono fun k _ h => by omega, ⟨_, HKE.out⟩, HFE.out, HUW.out.trans (F := fun k => k = N ∨ k = N + 1 + 1 ∨ w2.heap.size ≤ k) HUE.out fun k _ h => by omega⟩
      · have hkb : (kd == 2) = false := by simpa using hk2
        have HKO := Lib.hid (HK.out.alloc (.cells #[.map (some wm)] 62))
        have HFO := Lib.hid (HF.out.upd ((Upd.refl Nowhere W).alloc (.cells #[.map (some wm)] 62)) id)
        have HBO := Lib.hid (HB.out.alloc (.cells #[.map (some wm)] 62))
        have H4O := Lib.hid (H4.out.alloc (.cells #[.map (some wm)] 62))
        have HUO := Lib.hid (HUX.out.alloc (.cells #[.map (some wm)] 62))
        have HROW := Lib.hid (rowOne W wm)
        have cgo := (HGB.out.alloc (.cells #[.map (some wm)] 62)).cell
        have cBo := HBO.out.cell
        have HWS : Hid ((W.alloc (.cells #[.map (some wm)] 62)).heap.size = W.heap.size + 1) := Lib.hid (by simp)
        have HSB2 : Hid (N + 1 + 1 < Bx) := Lib.hid (by omega)
        have HELN : Hid (∀ k, (Value.slice (some ⟨W.heap.size, 0, none⟩) 1 1).ownBlock = some k → N + 1 + 1 < k ∧ k < (W.alloc (.cells #[.map (some wm)] 62)).heap.size) := Lib.hid fun k hk => by cases hk; have := HWS.out; have := HRW.out; simp; omega
        have HLT : Hid (∀ b ∈ [wm], w2.heap.size + 2 ≤ b ∧ b < (W.alloc (.cells #[.map (some wm)] 62)).heap.size) := Lib.hid fun b hb => by rw [List.mem_singleton] at hb; subst hb; have := HRW.out; simp; omega
        have HBNE : Hid (N + 1 + 1 < w2.heap.size) := Lib.hid (by omega)
        have HMB : Hid (w2.heap.size + 2 ≤ rm) := Lib.hid HRW.out.1
        have HSET : Hid (∀ b ∈ [wm], SetAt (W.alloc (.cells #[.map (some wm)] 62)) b (SxP pre key rm wm b)) := Lib.hid fun b hb => by
          obtain ⟨_, _, _, _, h5, h6, h7⟩ := HKO.out.has key _ HFK.out
          simp only [List.mem_cons, List.not_mem_nil, or_false] at hb
          rcases hb with rfl
          exact h6.congr fun t => ⟨fun h => .inl ⟨rfl, h⟩, fun h => h.elim (fun h => h.2) fun h => absurd h.1.symm HRW.out.2.2.1⟩
        have HEL := Lib.hid HROW.out.els
        have hsW := HUO.out.size
        gi_wp2
        clear cg cB cX3 cX4 cgo cBo hlk
        gi_loopw [57] (fun s wr => ∃ j : Nat, j ≤ 1 ∧ s = .int .i64 j ∧ FndAt wr (N + 1 + 1) (fun p => fndP pre p ∨ (p.1 = tx ∧ p.2 ≠ tx ∧ ∃ b ∈ ([wm]).take j, SxP pre key rm wm b p.2)) ∧ Upd (fun k => k = N + 1 + 1 ∨ (W.alloc (.cells #[.map (some wm)] 62)).heap.size ≤ k) (W.alloc (.cells #[.map (some wm)] 62)) wr) (fun s _ => 1 - (intOf s).toNat)
        case atStart => exact ⟨0, by omega, rfl, HFO.out.congr fun p => by simp, Upd.refl _ _⟩
        case round =>
          obtain ⟨j, hj, rfl, hfn, hu⟩ := hrel
          have HFN := Lib.hid hfn
          have HUJ := Lib.hid hu
          clear hfn hu
          by_cases hjl : j < 1
          · have hji : (j : Int) < 1 := by omega
            obtain ⟨b, hb⟩ : ∃ b, ([wm])[j]? = some b := ⟨_, List.getElem?_eq_getElem (by simp; omega)⟩
            obtain ⟨b7, o7, c7, hE7, hb7, q7⟩ := (HEL.out.upd HUJ.out fun k hk e => by have := HELN.out k hk; omega).get (fun _ => rfl) hb
            have q7 : wr.cell? ⟨b7, o7 + j, none⟩ = some (.map (some b)) := by have := q7 0 (by omega); simpa using this
            cases hE7
            try rw [Nat.zero_add] at q7
            have HJB := Lib.hid hb
            obtain ⟨Fb, hmb, hSb⟩ := (HSET.out b (List.mem_of_getElem? hb)).upd HUJ.out (by
              have := HLT.out b (List.mem_of_getElem? hb)
              have := HFO.out.lt
              omega)
            obtain ⟨w3, cnt0, hrun0, hR0, hU0, hsz0⟩ := hmb.range (P := Try.prog) (t := 62) Try.underlying62
            have HR0 := Lib.hid hR0
            have HFR := Lib.hid (HFN.out.upd hU0 id)
            have HUR := Lib.hid (HUJ.out.trans (F := fun k => k = N + 1 + 1 ∨ (W.alloc (.cells #[.map (some wm)] 62)).heap.size ≤ k) hU0 fun _ _ h => h.elim)
            have HSB := Lib.hid hSb
            have HSZR := Lib.hid HUJ.out.size
            have HBLT := Lib.hid (HLT.out b (List.mem_of_getElem? hb))
            clear hmb hR0 hU0 hsz0 hSb hb
            gi_wp2
            clear q7 hrun0
            gi_loopw [11] (fun _ wz => ∃ (left : Int → Prop) (cnt : Nat), RangeIs encI wz wr.heap.size b Fb left cnt ∧ FndAt wz (N + 1 + 1) (fun p => (fndP pre p ∨ (p.1 = tx ∧ p.2 ≠ tx ∧ ∃ b ∈ ([wm]).take j, SxP pre key rm wm b p.2)) ∨ (p.1 = tx ∧ p.2 ≠ tx ∧ Fb p.2 ≠ none ∧ ¬ left p.2)) ∧ (∀ t, left t → Fb t ≠ none) ∧ Upd (fun k => k = N + 1 + 1 ∨ (W.alloc (.cells #[.map (some wm)] 62)).heap.size ≤ k) (W.alloc (.cells #[.map (some wm)] 62)) wz) (fun _ wz => wz.rangeLeft b wr.heap.size)
            case atStart => exact ⟨_, cnt0, HR0.out, HFR.out.congr fun p => ⟨.inl, fun h => h.elim id fun h => absurd h.2.2.1 h.2.2.2⟩, fun _ h => h, HUR.out⟩
            case round =>
              obtain ⟨left, cnt, hR, hfz, hlf, huz⟩ := hrel
              have HR := Lib.hid hR
              have HFZ := Lib.hid hfz
              have HLF := Lib.hid hlf
              have HUZ := Lib.hid huz
              clear hR hfz hlf huz
              rcases HR.out.next (P := Try.prog) KI 0 with ⟨h0, hno, hrun⟩ | ⟨x, vx, wn, cnt1, hfx, hlx, hrun, hR1, hlt1, hu1, hsz1, hen⟩
              · have HFD := Lib.hid (HFZ.out.congr (T' := fun p => fndP pre p ∨ (p.1 = tx ∧ p.2 ≠ tx ∧ ∃ b ∈ ([wm]).take (j + 1), SxP pre key rm wm b p.2)) fun p => by
                  rw [List.take_add_one, HJB.out]
                  simp only [Option.toList_some, List.mem_append, List.mem_singleton]
                  constructor
                  · rintro ((h | ⟨h1, h2, b', h3, h4⟩) | ⟨h1, h2, h3, _⟩)
                    · exact .inl h
                    · exact .inr ⟨h1, h2, b', .inl h3, h4⟩
                    · exact .inr ⟨h1, h2, b, .inr rfl, (HSB.out _).1 h3⟩
                  · rintro (h | ⟨h1, h2, b', h3 | h3, h4⟩)
                    · exact .inl (.inl h)
                    · exact .inl (.inr ⟨h1, h2, b', h3, h4⟩)
                    · subst h3
                      exact .inr ⟨h1, h2, (HSB.out _).2 h4, hno _⟩)
                clear hno
                gi_wp2
                go_roundw
                case rel => exact ⟨j + 1, by omega, by go_num, HFD.out, HUZ.out⟩
                case measure => simp [intOf]; omega
              · have HFN2 := Lib.hid (HFZ.out.upd hu1 fun e => by have h1 := HSZR.out; have h2 := HFO.out.lt; omega)
                have HR1 := Lib.hid hR1
                have HUN := Lib.hid (HUZ.out.trans (F := fun k => k = N + 1 + 1 ∨ (W.alloc (.cells #[.map (some wm)] 62)).heap.size ≤ k) hu1 fun k _ e => .inr (by have h1 := HSZR.out; omega))
                have HLT1 := Lib.hid hlt1
                have HFX : Hid (Fb x ≠ none) := Lib.hid (by rw [hfx]; simp)
                have HL1 : Hid (∀ t, (left t ∧ t ≠ x) → Fb t ≠ none) := Lib.hid fun t h => HLF.out t h.1
                have hsO := HFO.out.lt
                have cB := (HBO.out.upd HUN.out (by have := HBO.out.lt; have := HSB2.out; omega)).cell
                have cX4 := (H4O.out.upd HUN.out (by have := H4O.out.lt; omega)).cell
                clear hfx hlx hR1 hlt1 hu1 hsz1
                by_cases hxt : x = tx
                · have hxb : (x != tx) = false := by simp [hxt]
                  have HFE := Lib.hid (HFN2.out.congr (T' := fun p => (fndP pre p ∨ (p.1 = tx ∧ p.2 ≠ tx ∧ ∃ b ∈ ([wm]).take j, SxP pre key rm wm b p.2)) ∨ (p.1 = tx ∧ p.2 ≠ tx ∧ Fb p.2 ≠ none ∧ ¬ (left p.2 ∧ p.2 ≠ x))) fun p => by
                    refine or_congr Iff.rfl ⟨fun ⟨h1, h2, h3, h4⟩ => ⟨h1, h2, h3, fun h => h4 h.1⟩, fun ⟨h1, h2, h3, h4⟩ => ⟨h1, h2, h3, fun h => h4 ⟨h, by rw [hxt]; exact h2⟩⟩⟩)
                  gi_wp2
                  go_roundw
                  case rel => exact ⟨_, cnt1, HR1.out, HFE.out, HL1.out, HUN.out⟩
                  case measure =>
                    rw [HR1.out.left_eq, HR.out.left_eq]
                    exact HLT1.out
                · have hxb : (x != tx) = true := by simpa using hxt
                  obtain ⟨wp, hrp, hFp, hup, _⟩ := HFN2.out.add (tx, x)
                  have hbp := run_build_pair tx x wn
                  have HFE := Lib.hid (hFp.congr (T' := fun p => (fndP pre p ∨ (p.1 = tx ∧ p.2 ≠ tx ∧ ∃ b ∈ ([wm]).take j, SxP pre key rm wm b p.2)) ∨ (p.1 = tx ∧ p.2 ≠ tx ∧ Fb p.2 ≠ none ∧ ¬ (left p.2 ∧ p.2 ≠ x))) fun p => by
                    constructor
                    · rintro ((h | ⟨h1, h2, h3, h4⟩) | rfl)
                      · exact .inl h
                      · exact .inr ⟨h1, h2, h3, fun h => h4 h.1⟩
                      · exact .inr ⟨rfl, hxt, HFX.out, fun h => h.2 rfl⟩
                    · rintro (h | ⟨h1, h2, h3, h4⟩)
                      · exact .inl (.inl h)
                      · by_cases e : p.2 = x
                        · exact .inr (Prod.ext h1 e)
                        · exact .inl (.inr ⟨h1, h2, h3, fun h => h4 ⟨h, e⟩⟩))
                  have HRP := Lib.hid (HR1.out.upd hup (fun e => by have h1 := HBLT.out; have h2 := HBNE.out; omega) (by have h1 := HSZR.out; omega))
                  have HUP := Lib.hid (HUN.out.trans (F := fun k => k = N + 1 + 1 ∨ (W.alloc (.cells #[.map (some wm)] 62)).heap.size ≤ k) hup fun k _ e => .inl e)
                  clear hFp hup
                  gi_wp2
                  go_roundw
                  case rel => exact ⟨_, cnt1, HRP.out, HFE.out, HL1.out, HUP.out⟩
                  case measure =>
                    rw [HRP.out.left_eq, HR.out.left_eq]
                    exact HLT1.out
          · have hji : ¬ (j : Int) < 1 := by omega
            obtain rfl : j = 1 := by omega
            have cB := (HBO.out.upd HUJ.out (by have := HBO.out.lt; have := HSB2.out; have := HFO.out.lt; omega)).cell
            have hkE := HKO.out.upd HUJ.out (by have := HKO.out.map.lt; omega) fun K g' hK => by
              obtain ⟨c1, c2, c3, c4, c5, c6, _⟩ := HKO.out.has K g' hK
              have h1 := c4.lt
              have h2 := c5.lt
              have h3 := c6.lt
              omega
            obtain ⟨we, hre, hKe, hue⟩ := hkE.read (by omega) HFK.out tx
            dsimp only at hre hue
            have HFE := Lib.hid ((HFN.out.upd hue (by have := HMB.out; omega)).congr (T' := fndP (pre ++ [⟨kd, tx, key, has, data⟩])) fun p => by
              rw [fndP_snoc, List.take_of_length_le (by simp)]
              refine or_congr Iff.rfl (and_congr Iff.rfl (and_congr Iff.rfl ?_))
              constructor
              · rintro ⟨b, hb, h | h⟩
                · exact .inl h.2
                · rw [List.mem_singleton] at hb
                  exact absurd (h.1.symm.trans hb) HRW.out.2.2.1
              · rintro (h | h)
                · exact ⟨wm, List.mem_singleton.2 rfl, .inl ⟨rfl, h⟩⟩
                · exact absurd h.1 hk2)
            have HKE := Lib.hid (hKe.congr (rd' := rdP (pre ++ [⟨kd, tx, key, has, data⟩])) (wr' := wrP (pre ++ [⟨kd, tx, key, has, data⟩])) (fun K t => by rw [rdP_snoc]; simp [hk2]) (fun K t => by rw [wrP_snoc]; simp [hk2]))
            have HUE := Lib.hid ((HUO.out.trans (F := fun k => k = N ∨ k = N + 1 + 1 ∨ w2.heap.size + 2 ≤ k) HUJ.out fun k _ h => by omega).trans (F := fun k => k = N ∨ k = N + 1 + 1 ∨ w2.heap.size + 2 ≤ k) hue fun k _ h => by have := HMB.out; omega)
            clear hkE hKe hue
            gi_wp2
            exact ⟨⟨HUE.out.block _ (by omega) (by omega), HUE.out.block _ (by omega) (by omega)⟩, HUE.out.mono fun k _ h => by omega, ⟨_, HKE.out⟩, HFE.out, HUW.out.trans (F := fun k => k = N ∨ k = N + 1 + 1 ∨ w2.heap.size ≤ k) HUE.out fun k _ h => by omega⟩
  case done =>
    rintro D xs W hD rfl ⟨⟨f, hk⟩, ⟨F, hF, hFS⟩, hu⟩ hK
    have hs := HS.out
    have HDW := Lib.hid hK
    have HUW := Lib.hid (HU.out.trans (F := Nowhere) hu fun k hk h => absurd h (by omega))
    have HSD := Lib.hid (show w.heap.size ≤ D by omega)
    have c4 := (HX4.out.upd hu (by omega)).cell
    have HPF : Hid (∀ p, F p ≠ none ↔ ∃ i k, i < k ∧ PairAt l i k p) := Lib.hid fun p => (hFS p).trans (fnd_all l p)
    have hN9 : ∀ xs : List (Int × Int), xs.Nodup → (∀ p ∈ xs, F p ≠ none) → xs.length ≤ 3600 := fun xs hnd hm => by
      have := nodup_le (b := (l.map (·.tx)).flatMap fun x => (l.map (·.tx)).map fun y => (x, y)) hnd fun p hp => by
        obtain ⟨i, k, _, a, b, h1, h2, _, _, _, _, _, rfl⟩ := (HPF.out p).1 (hm p hp)
        exact List.mem_flatMap.2 ⟨b.tx, List.mem_map_of_mem (List.mem_of_getElem? h2), List.mem_map_of_mem (List.mem_map_of_mem (List.mem_of_getElem? h1))⟩
      rw [prod_len, List.length_map] at this
      have : l.length * l.length ≤ 60 * 60 := Nat.mul_le_mul hl hl
      omega
    have HC := Lib.hid (pcollect_ok (Blk.new W 57 #[.map (some (N + 1 + 1))]) (hF.alloc _) hN9 (by decide))
    clear hk hF hFS hu hK hD HX3 HX4 HK0 HF0 HU HB1 HB3 HM HS
    gi_wp2
    go_upto_region 24 with (first | (go_at_call 31; refine (pkeys_ok W _).mono ?_; rintro e w9 ⟨rfl, rfl⟩) | (go_at_call 30; refine HC.out.mono ?_; rintro e w9 ⟨v9, xs, rfl, ho, hnd, hxs, hu9⟩))
    have hw9 := ((Upd.refl Nowhere W).alloc (.cells #[.map (some (N + 1 + 1))] 57)).trans (F := Nowhere) hu9 fun _ _ => id
    have HU9 := Lib.hid (HUW.out.trans hw9 fun _ _ => id)
    have HD9 : Hid (w9.heap[D]? = some (.deferred (some []))) := Lib.hid ((hw9.block D (lt_of_heap HDW.out) id).trans HDW.out)
    have HSR := Lib.hid (sorted_merge hnd)
    have HXS := Lib.hid hxs
    have HNW : Hid (∀ k, v9.ownBlock = some k → w.heap.size ≤ k ∧ k ≠ D) := Lib.hid fun k hk => by
      have h1 := ho.new k hk
      have h2 := lt_of_heap HDW.out
      have h3 := HSD.out
      simp at h1
      omega
    have HSO := Lib.hid (psort_ok ho (by have := hN9 xs hnd fun p hp => (hxs p).1 hp; omega))
    obtain ⟨A9, n9, rfl, hA9⟩ := ho.els.val
    clear ho hnd hxs hu9 hw9 hN9 HC
    go_wp2_with (go_at_call 32; refine HSO.out.mono ?_; rintro e wa ⟨rfl, hoa, hua⟩)
    have HDA : wa.heap[D]? = some (.deferred (some [])) := (hua.block D (lt_of_heap HD9.out) fun e => (HNW.out D e).2 rfl).trans HD9.out
    refine ⟨by simp, .inl ⟨_, _, rfl, run_takeDeferred HDA, ?_⟩⟩
    have hup := (Upd.refl (fun k => k = D) wa).grown (grownBy_putObj' wa D (.deferred none)) fun k hk _ => (Option.some.inj hk).symm
    refine ⟨_, results_tmp rfl _ _ _, ⟨.slice A9 xs.length n9, rfl, _, (hoa.upd hup fun k hk e => (HNW.out k hk).2 e).els, HSR.out.1, fun p => (HSR.out.2 p).trans ((HXS.out p).trans (HPF.out p))⟩, (HU9.out.trans (F := Nowhere) hua fun k hk e => ?_).trans (F := Nowhere) hup fun k hk e => ?_⟩
    · exact absurd (HNW.out k e).1 (by omega)
    · have := HSD.out
      omega
end Go.Proofs.Ytddknmgajacofaa
