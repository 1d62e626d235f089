/-
  Is there a ring? The program's rings and Victim.
-/
import Derived.Test.YtddknmgajacofaaTeN
import Derived.Test.YtddknmgajacofaaMapR
import Derived.Laws.EntriesVeiled
namespace Go.Proofs.Ytddknmgajacofaa
open Go Go.RowKit

/-- All numbers of some pairs. -/
def nodesT (E : Ed) : List Int := E.map (·.1) ++ E.map (·.2)
theorem nodesT_len (E : Ed) : (nodesT E).length = 2 * E.length := by simp [nodesT]; omega
theorem nodesT_mem {E : Ed} {x : Int} : x ∈ nodesT E ↔ numsP E E.length x := by
  rw [numsP_all]
  simp only [nodesT, List.mem_append, List.mem_map]
  constructor
  · rintro (⟨⟨a, b⟩, h, rfl⟩ | ⟨⟨a, b⟩, h, rfl⟩)
    · exact ⟨a, b, h, .inl rfl⟩
    · exact ⟨a, b, h, .inr rfl⟩
  · rintro ⟨a, b, h, rfl | rfl⟩
    · exact .inl ⟨(x, b), h, rfl⟩
    · exact .inr ⟨(a, x), h, rfl⟩
theorem outs_nodes (E : Ed) (a b : Int) (h : b ∈ outsN E E.length a) : b ∈ nodesT E := nodesT_mem.2 (numsP_all.2 ⟨a, b, (outsN_mem E a b).1 h, .inr rfl⟩)
theorem unv_small (nodes : List Int) (s : Tj) : unvT nodes s ≤ nodes.length := List.countP_le_length

def tjP (n mx : Nat) : TjBx := { bx := n, mf := n + 1, bf := n + 1 + 1, mo := n + 1 + 1 + 1, ml := n + 1 + 1 + 1 + 1, bo := n + 1 + 1 + 1 + 1 + 1, bl := n + 1 + 1 + 1 + 1 + 1 + 1, mn := n + 1 + 1 + 1 + 1 + 1 + 1 + 1, bn := n + 1 + 1 + 1 + 1 + 1 + 1 + 1 + 1, bs := n + 1 + 1 + 1 + 1 + 1 + 1 + 1 + 1 + 1, bw := n + 1 + 1 + 1 + 1 + 1 + 1 + 1 + 1 + 1 + 1, mx := mx }
/-- The memory behind the boxes' making. -/
def tjW (w1 : World) (mx : Nat) : World :=
  (((((((((((w1.alloc (.cells #[.map (some mx)] 48)).alloc (.map #[] 0)).alloc (.cells #[.map (some (w1.heap.size + 1))] 62)).alloc (.map #[] 0)).alloc (.map #[] 0)).alloc (.cells #[.map (some (w1.heap.size + 1 + 1 + 1))] 47)).alloc (.cells #[.map (some (w1.heap.size + 1 + 1 + 1 + 1))] 47)).alloc (.map #[] 0)).alloc (.cells #[.map (some (w1.heap.size + 1 + 1 + 1 + 1 + 1 + 1 + 1))] 62)).alloc (.cells #[.slice none 0 0] 25)).alloc (.cells #[.nilFunc] 98))
def s0T : Tj := ⟨[], fun _ => 0, fun _ => 0, fun _ => false, [], fun _ => false⟩
theorem mapNew' {n : Nat} (w : World) (hn : n = w.heap.size) : MapIs encI (w.alloc (.map #[] 0)) n (fun _ => none) := by rw [hn]; exact MapIs.new w encI
section
variable {w1 W3 : World} {mx B : Nat} {next : Int → List Int}
theorem tj_size : (tjW w1 mx).heap.size = w1.heap.size + 11 := by simp [tjW]
theorem tj_upd : Upd Nowhere w1 (tjW w1 mx) := ((((((((((((Upd.refl Nowhere w1).alloc _).alloc _).alloc _).alloc _).alloc _).alloc _).alloc _).alloc _).alloc _).alloc _).alloc _)
theorem tj_box : Blk (tjW w1 mx) (tjP w1.heap.size mx).bw 98 #[.nilFunc] := Blk.new' _ _ _ (by simp [tjP])
theorem tj_start (hn : ∃ f, MapIs encI w1 mx f ∧ ∀ x, NumsE w1 ((f x).getD (.slice none 0 0)) (next x) ∧ ∀ k, ((f x).getD (.slice none 0 0)).ownBlock = some k → k < w1.heap.size) (hmx : mx < w1.heap.size)
    (hu : Upd Nowhere ((tjW w1 mx).setCell ⟨(tjP w1.heap.size mx).bw, 0, none⟩ (tjP w1.heap.size mx).walkV) W3) (hB : w1.heap.size + 11 ≤ B) (hB3 : B ≤ W3.heap.size) : TjAt (tjP w1.heap.size mx) B w1.heap.size W3 next s0T := by
  have hb7 : Blk W3 (tjP w1.heap.size mx).bw 98 #[(tjP w1.heap.size mx).walkV] := (tj_box.set_ 0 _).upd hu id
  have key : ∀ {g : Nat} {t : TypeId} {cs : Array Value}, Blk (tjW w1 mx) g t cs → g ≠ (tjP w1.heap.size mx).bw → Blk W3 g t cs := fun hg hne => (hg.far (by exact hne) _).upd hu id
  have keym : ∀ {m : Nat} {f : Int → Option Value}, MapIs encI (tjW w1 mx) m f → MapIs encI W3 m f := fun hm => (hm.setCell _ _).upd hu id
  have hu1 : Upd Nowhere w1 W3 := (tj_upd.setCell (F := Nowhere) (fun h => by simp only [tjP] at h; omega) _).trans hu fun _ _ => id
  obtain ⟨f, hm, hx⟩ := hn
  refine ⟨⟨⟨by simp [tjP]; omega, by simp [tjP]; omega, by simp [tjP]; omega, by simp [tjP]; omega⟩, key ?_ (by simp only [tjP]; omega), key ?_ (by simp only [tjP]; omega), key ?_ (by simp only [tjP]; omega), key ?_ (by simp only [tjP]; omega), key ?_ (by simp only [tjP]; omega), hb7, f, hm.upd hu1 id, fun x => ⟨(hx x).1.upd hu1 fun _ _ => id, (hx x).2⟩⟩, hB3, ⟨.slice none 0 0, key ?_ (by simp only [tjP]; omega), OwnR.nil _ _ _ _ _⟩, ?_, ⟨fun _ => none, keym ?_, fun _ => rfl⟩, ⟨fun _ => none, keym ?_, fun _ => rfl⟩, ?_⟩
  · exact ((((((Blk.new' _ _ _ (by simp [tjP])).alloc _).alloc _).alloc _).alloc _).alloc _)
  · exact (((((Blk.new' _ _ _ (by simp [tjP])).alloc _).alloc _).alloc _).alloc _)
  · exact (((Blk.new' _ _ _ (by simp [tjP])).alloc _).alloc _)
  · exact (((((((((((Blk.new' _ _ _ (by simp [tjP])).alloc _).alloc _).alloc _).alloc _).alloc _).alloc _).alloc _).alloc _).alloc _).alloc _)
  · exact (((((((((Blk.new' _ _ _ (by simp [tjP])).alloc _).alloc _).alloc _).alloc _).alloc _).alloc _).alloc _).alloc _)
  · exact ((Blk.new' _ _ _ (by simp [tjP])).alloc _)
  · refine (keym (f := fun _ => none) ?_).congr fun x => by simp [ordF, s0T]
    exact ((((((((mapNew' _ (by simp [tjP])).alloc _).alloc _).alloc _).alloc _).alloc _).alloc _).alloc _)
  · exact (((((((mapNew' _ (by simp [tjP])).alloc _).alloc _).alloc _).alloc _).alloc _).alloc _)
  · exact ((((mapNew' _ (by simp [tjP])).alloc _).alloc _).alloc _)
  · refine (keym (f := fun _ => none) ?_).congr fun x => by simp [fndF, s0T]
    exact ((((((((((mapNew' _ (by simp [tjP])).alloc _).alloc _).alloc _).alloc _).alloc _).alloc _).alloc _).alloc _).alloc _)
end
section
variable {p : TjBx} {B C : Nat} {W W' : World} {next : Int → List Int} {s : Tj} {r cnt : Nat} {f : Int → Option Value} {left : Int → Prop}
theorem RangeIs.iter {m : Nat} (h : RangeIs encI W r m f left cnt) : ∃ o, W.heap[r]? = some o ∧ o.isCells = false ∧ ∀ es ck, o ≠ .map es ck := by
  obtain ⟨es, ck, since, seen, c0, _, _, _, _, h5, _⟩ := h
  exact ⟨_, h5, rfl, fun _ _ e => by cases e⟩
theorem iter_ne_blk {o : Obj} (h : W.heap[r]? = some o) (ho : o.isCells = false) {g : Nat} {t : TypeId} {cs : Array Value} (hg : Blk W g t cs) : g ≠ r := by
  rintro rfl
  unfold Blk at hg
  rw [h] at hg
  cases hg
  cases ho
theorem iter_ne_map {o : Obj} (h : W.heap[r]? = some o) (ho : ∀ es ck, o ≠ .map es ck) {b : Nat} {g : Int → Option Value} (hg : MapIs encI W b g) : b ≠ r := by
  rintro rfl
  obtain ⟨es, ck, h1, _⟩ := hg
  rw [h] at h1
  cases h1
  exact ho _ _ rfl
/-- A step of a range leaves the walk's memory alone. -/
theorem TjAt.step (h : TjAt p B C W next s) {m : Nat} (hr : RangeIs encI W r m f left cnt) (hC : C ≤ r) (hu : Upd (fun k => k = r) W W') : TjAt p B C W' next s := by
  obtain ⟨o, h1, h2, h3⟩ := hr.iter
  obtain ⟨v, hb3, ho⟩ := h.b3
  obtain ⟨f1, hl, hl2⟩ := h.low
  obtain ⟨f2, hn, hn2⟩ := h.on
  obtain ⟨f3, hm, hx⟩ := h.fix.nxt
  refine ⟨⟨h.fix.ne, h.fix.b1.upd hu (iter_ne_blk h1 h2 h.fix.b1), h.fix.b2.upd hu (iter_ne_blk h1 h2 h.fix.b2), h.fix.b4.upd hu (iter_ne_blk h1 h2 h.fix.b4), h.fix.b5.upd hu (iter_ne_blk h1 h2 h.fix.b5), h.fix.b6.upd hu (iter_ne_blk h1 h2 h.fix.b6), h.fix.b7.upd hu (iter_ne_blk h1 h2 h.fix.b7), f3, hm.upd hu (iter_ne_map h1 h3 hm), fun x => ⟨(hx x).1.upd hu fun k hk e => by have := (hx x).2 k hk; omega, (hx x).2⟩⟩, Nat.le_trans h.size hu.size, ⟨v, hb3.upd hu (iter_ne_blk h1 h2 hb3), ho.upd hu fun k hk e => ?_⟩, h.ord.upd hu (iter_ne_map h1 h3 h.ord), ⟨f1, hl.upd hu (iter_ne_map h1 h3 hl), hl2⟩, ⟨f2, hn.upd hu (iter_ne_map h1 h3 hn), hn2⟩, h.fnd.upd hu (iter_ne_map h1 h3 h.fnd)⟩
  obtain ⟨cs, hcs⟩ := ho.is_cells hk
  subst e
  rw [h1] at hcs
  cases hcs
  cases h2
theorem TjAt.iter_out (h : TjAt p B C W next s) {m : Nat} (hr : RangeIs encI W r m f left cnt) (hB : r < B) : ¬ TjF p B r := by
  obtain ⟨o, h1, h2, h3⟩ := hr.iter
  obtain ⟨v, hb3, ho⟩ := h.b3
  obtain ⟨f1, hl, hl2⟩ := h.low
  obtain ⟨f2, hn, hn2⟩ := h.on
  rintro (e | e | e | e | e | e)
  · exact iter_ne_map h1 h3 h.ord e.symm
  · exact iter_ne_map h1 h3 hl e.symm
  · exact iter_ne_map h1 h3 hn e.symm
  · exact iter_ne_map h1 h3 h.fnd e.symm
  · exact iter_ne_blk h1 h2 hb3 e.symm
  · omega
end
set_option maxHeartbeats 8000000 in
set_option maxRecDepth 100000 in
theorem rings_ok {w : World} {v : Value} {E : Ed} (h : EdE w v E) (hl : E.length ≤ 3600) : Calls Try.prog 39 #[v] w fun r w' => ∃ b f, r = .returned (.map (some b)) ∧ MapIs encI w' b f ∧ ((∃ x, f x ≠ none) ↔ Cyc E) ∧ Upd Nowhere w w' := by
  have hmm := @run_makeMap Try.prog
  have H := Lib.hid h
  clear h
  go_enter Try.func39, Try.ntmps39
  go_wp2_with fail
  refine (outs_ok H.out (by omega)).mono ?_
  rintro r w1 ⟨rfl, hG, hu1⟩
  have HG := Lib.hid hG
  have HU1 := Lib.hid hu1
  clear hG hu1
  go_upto_region 7 with (fail)
  change Code.wp _ _ _ _ (tjW w1 w.heap.size)
  have HW := Lib.hid (tj_box (w1 := w1) (mx := w.heap.size))
  have HST := Lib.hid (fun (next : Int → List Int) (B : Nat) (W3 : World) => tj_start (w1 := w1) (mx := w.heap.size) (next := next) (B := B) (W3 := W3))
  have HUT := Lib.hid (tj_upd (w1 := w1) (mx := w.heap.size))
  have HSZ := Lib.hid (tj_size (w1 := w1) (mx := w.heap.size))
  have hcb := HW.out.cell 0
  have hfb := HW.out.frozen 0
  simp only [tjP] at hcb hfb
  generalize tjW w1 w.heap.size = W0 at *
  go_cut [3, 4, 5, 6, 7, 8, 9] (fun a b c d e g i wz => ∃ p : TjBx, a = ptrV p.bx ∧ b = ptrV p.bf ∧ c = ptrV p.bo ∧ d = ptrV p.bl ∧ e = ptrV p.bn ∧ g = ptrV p.bs ∧ i = ptrV p.bw ∧ p.mx = w.heap.size ∧ ∃ W, W = wz ∧ Upd Nowhere w1 W ∧ w1.heap.size ≤ W.heap.size ∧ ∀ (next : Int → List Int) (B : Nat) (W3 : World), (∃ f, MapIs encI w1 w.heap.size f ∧ ∀ x, NumsE w1 ((f x).getD (.slice none 0 0)) (next x) ∧ ∀ k, ((f x).getD (.slice none 0 0)).ownBlock = some k → k < w1.heap.size) → w.heap.size < w1.heap.size → Upd Nowhere W W3 → W.heap.size ≤ B → B ≤ W3.heap.size → TjAt p B w1.heap.size W3 next s0T)
  case first =>
    go_wp2_with fail
    go_meet
    refine ⟨tjP w1.heap.size w.heap.size, rfl, rfl, rfl, rfl, rfl, rfl, rfl, rfl, _, rfl, HUT.out.setCell (fun h => ?_) _, ?_, fun next B W3 h1 h2 h3 h4 h5 => HST.out next B W3 h1 h2 h3 ?_ h5⟩
    · simp at h; omega
    · simp [World.setCell, HSZ.out]
    · simp [World.setCell, HSZ.out] at h4; omega
  case rest =>
    obtain ⟨p, rfl, rfl, rfl, rfl, rfl, rfl, rfl, hmx, W, rfl, huW, hsW, hst⟩ := hcut
    have hgl := HG.out.lt
    obtain ⟨f, hm, hd, hf1, hf2, _⟩ := HG.out.out
    have hnx : ∀ x, NumsE w1 ((f x).getD (.slice none 0 0)) (outsN E E.length x) ∧ ∀ k, ((f x).getD (.slice none 0 0)).ownBlock = some k → k < w1.heap.size := fun x => by
      cases hfx : f x with
      | none =>
        rw [hf1 x hfx]
        exact ⟨Reads.of_own (World.ownsRow_nil w1 0 3 1), fun k hk => by cases hk⟩
      | some u => exact ⟨(hf2 x u hfx).els, fun k hk => (hf2 x u hfx).lt hk⟩
    obtain ⟨w3, cnt0, hrun0, hR0, hU0, hsz0⟩ := (hm.upd huW id).range (P := Try.prog) (t := 48) Try.underlying48
    have hT0 := hst (outsN E E.length) W.heap.size W ⟨f, hm, hnx⟩ hgl (Upd.refl _ _) (Nat.le_refl _) (Nat.le_refl _)
    have HT3 := Lib.hid (hst (outsN E E.length) w3.heap.size w3 ⟨f, hm, hnx⟩ hgl hU0 (by omega) (Nat.le_refl _))
    obtain ⟨v0, ⟨c1, c2, c3, c4, c5, c6, c7⟩, _, _⟩ := hT0.cells
    rw [hmx] at c5
    have HRUN := Lib.hid hrun0
    have HR0 := Lib.hid hR0
    have HU3 := Lib.hid ((HU1.out.trans (F := Nowhere) huW fun _ _ => id).trans (F := Nowhere) hU0 fun _ _ => id)
    have HD := Lib.hid hd
    have HSW := Lib.hid hsW
    have HS3 := Lib.hid hsz0
    have HMX := Lib.hid hmx
    have HNX := Lib.hid (outs_nodes E)
    have HNL := Lib.hid (fun x => Nat.le_trans (outsN_len E E.length x) (Nat.le_trans hl (by omega : 3600 ≤ 10000)))
    have HND : Hid ((nodesT E).length ≤ 10000) := Lib.hid (by rw [nodesT_len]; omega)
    clear hT0 hst hm hd hf1 hf2 hnx hrun0 hR0 hU0 hsz0 huW hsW hmx
    go_wp2_with (at_range; refine wpList_range_run rfl _ _ rfl rfl HRUN.out ?_)
    clear c1 c2 c3 c4 c5 c6 c7
    go_frame
    go_loopw [10] (fun _ wr => ∃ (left : Int → Prop) (cnt : Nat) (s : Tj), RangeIs encI wr W.heap.size w.heap.size f left cnt ∧ TjAt p w3.heap.size w1.heap.size wr (outsN E E.length) s ∧ RootT (outsN E E.length) E s ∧ (∀ x ∈ s.vis, x ∈ nodesT E) ∧ (∀ x, f x ≠ none → ¬ left x → s.ord x ≠ 0) ∧ Upd Nowhere w wr) (fun _ wr => wr.rangeLeft w.heap.size W.heap.size)
    case atStart => exact ⟨_, cnt0, s0T, HR0.out, HT3.out, root_start _ _, (fun x hx => by cases hx), (fun x h1 h2 => absurd h1 h2), HU3.out⟩
    case round =>
      obtain ⟨left, cnt, s, hR, hT, hRo, hsub, hleft, hu⟩ := hrel
      have HR := Lib.hid hR
      have HT := Lib.hid hT
      have HRO := Lib.hid hRo
      have HSUB := Lib.hid hsub
      have HLE := Lib.hid hleft
      have HU := Lib.hid hu
      clear hR hT hRo hsub hleft hu
      obtain ⟨v0, ⟨c1, c2, c3, c4, c5, c6, c7⟩, _, _⟩ := HT.out.cells
      go_wp2_with (at_next; refine wpList_next_is KI rfl _ rfl rfl HR.out ?_ ?_)
      · intro h0 hno
        have HF : Hid ((∃ x, fndF s x ≠ none) ↔ Cyc E) := Lib.hid (by
          rw [← HRO.out.tells (outsN_mem E) fun a b hab => HLE.out a ((HD.out a).2 (numsP_all.2 ⟨a, b, hab, .inl rfl⟩)) (hno a)]
          constructor
          · rintro ⟨x, hx⟩
            refine ⟨x, ?_⟩
            unfold fndF at hx
            cases hs : s.fnd x with
            | true => rfl
            | false => rw [hs] at hx; simp at hx
          · rintro ⟨x, hx⟩
            exact ⟨x, by unfold fndF; rw [hx]; simp⟩)
        clear hno
        go_wp2_with fail
        go_ret
        exact ⟨_, _, rfl, HT.out.fnd, HF.out, HU.out⟩
      · intro x vx wn cnt1 hfx hlx hR1 hlt hu1 hsz1 hen
        have HTN := Lib.hid (HT.out.step HR.out HSW.out hu1)
        have HUN := Lib.hid (HU.out.trans (F := Nowhere) hu1 fun k hk e => by have h1 := HSW.out; have h2 := HU1.out.size; omega)
        have HR1 := Lib.hid hR1
        have HFX := Lib.hid hfx
        have HLT := Lib.hid hlt
        clear c1 c2 c3 c4 c5 c6 c7 hfx hlx hR1 hlt hu1 hsz1
        obtain ⟨v1, ⟨c1, c2, c3, c4, c5, c6, c7⟩, _, _⟩ := HTN.out.cells
        have q := HTN.out.ordL x
        have HLX : Hid (∀ y, f y ≠ none → ¬ (left y ∧ y ≠ x) → y = x ∨ s.ord y ≠ 0) := Lib.hid fun y hy hn => by
          by_cases e : y = x
          · exact .inl e
          · exact .inr (HLE.out y hy fun h => hn ⟨h, e⟩)
        have HXN : Hid (x ∈ nodesT E) := Lib.hid (nodesT_mem.2 ((HD.out x).1 (by rw [HFX.out]; simp)))
        by_cases h0 : s.ord x = 0
        · rw [h0] at q
          have q : _ = Result.ok (Value.int .i64 0) wn := q
          have H0 := Lib.hid h0
          have hcf := cf_walk
          simp only [TjBx.walkV] at c7
          clear h0
          go_wp2_with fail
          refine (walk_ok HNX.out HNL.out HND.out (nodesT E).length x s wn HTN.out HRO.out.inv HSUB.out H0.out HXN.out (unv_small _ _)).mono ?_
          rintro r wu ⟨⟨vr, rfl⟩, hTu, huu⟩
          have hne := HTN.out.fix.ne
          have hiter := HTN.out.iter_out HR1.out (by have := HS3.out; omega)
          have HTU := Lib.hid hTu
          have HRU := Lib.hid (HR1.out.upd huu (fun hf => by
            have h1 := hne.c
            have h2 := HMX.out
            have h3 := hne.m
            rcases hf with e | e | e | e | e | e <;> omega) hiter)
          have HUU := Lib.hid (HUN.out.trans (F := Nowhere) huu fun k hk hf => by
            have h1 := hne.c
            have h2 := HU1.out.size
            have h3 := HSW.out
            have h4 := HS3.out
            rcases hf with e | e | e | e | e | e <;> omega)
          have HST := Lib.hid (HRO.out.step (outsN_mem E) HNX.out H0.out HXN.out (unv_small _ _))
          have HSS := Lib.hid (walk_sub HNX.out (nodesT E).length x s HXN.out HSUB.out)
          clear hTu huu hne hiter q c1 c2 c3 c4 c5 c6 c7
          generalize walkT (outsN E E.length) (nodesT E).length x s = u at *
          go_wp2_with fail
          try go_frame
          go_roundw
          case rel => exact ⟨_, cnt1, u, HRU.out, HTU.out, HST.out.1, HSS.out, fun y hy hn => HST.out.2 y ((HLX.out y hy hn).symm), HUU.out⟩
          case measure =>
            rw [HRU.out.left_eq, HR.out.left_eq]
            exact HLT.out
        · have hq1 : (((s.ord x : Nat) : Int) == 0) = false := by simpa using h0
          have hq0 : ¬ (((s.ord x : Nat) : Int) = 0) := by omega
          have H0 := Lib.hid h0
          clear h0
          go_wp2_with fail
          try go_frame
          go_roundw
          case rel => exact ⟨_, cnt1, s, HR1.out, HTN.out, HRO.out, HSUB.out, fun y hy hn => by
            rcases HLX.out y hy hn with rfl | h
            · exact H0.out
            · exact h, HUN.out⟩
          case measure =>
            rw [HR1.out.left_eq, HR.out.left_eq]
            exact HLT.out
end Go.Proofs.Ytddknmgajacofaa
