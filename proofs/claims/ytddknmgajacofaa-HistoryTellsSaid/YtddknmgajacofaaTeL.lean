/-
  The walk over a graph: the closure's contract.
-/
import Derived.Test.YtddknmgajacofaaTeK
import Derived.Test.YtddknmgajacofaaTeD
namespace Go.Proofs.Ytddknmgajacofaa
open Go Go.RowKit Go.MapKept

theorem ownI_cut {B : Nat} {w : World} {g n cap j : Nat} {L : List Int} (h : OwnI B w (.slice (some ⟨g, 0, none⟩) n cap) L) (hj : j ≤ L.length) : OwnI B w (.slice (some ⟨g, 0, none⟩) j cap) (L.take j) := by
  obtain ⟨h1, h2⟩ := h.row
  rcases h2 with ⟨h2, _⟩ | ⟨g', cap', cur, he, hb, hh, hn, hm, hs, ht⟩
  · cases h2
  · cases he
    have hl : (L.take j).length = j := by simp; omega
    refine ⟨⟨by rw [flat_num, List.length_map, Nat.mul_one], .inr ⟨g, cap, cur, by rw [hl], hb, hh, by rw [hl]; omega, hm, hs, ?_⟩⟩, fun k hk => h.new k hk⟩
    rw [hl, flat_num, List.map_take, ← flat_num L, ← ht, List.take_take]
    congr 1
    omega
set_option maxHeartbeats 2000000 in
theorem index_ok {w : World} {v : Value} {L : List Int} (h : NumsE w v L) (hl : L.length ≤ 100000) {n : Int} (hn : n ∈ L) : Calls Try.prog 55 #[v, .int .i64 n] w fun r w' => r = .returned (.int .i64 (L.idxOf n : Nat)) ∧ w' = w := by
  obtain ⟨A, c, rfl, hc⟩ := h.val
  have H := Lib.hid h
  have HN := Lib.hid hn
  clear h hn
  have HI : Hid (∀ k, L[k]? = some n → (∀ j, j < k → L[j]? ≠ some n) → k = L.idxOf n) := Lib.hid fun k hk hno => by
    have hlt : L.idxOf n < L.length := List.idxOf_lt_length_iff.2 HN.out
    have hge : L[L.idxOf n]? = some n := by rw [List.getElem?_eq_getElem hlt, List.getElem_idxOf hlt]
    rcases Nat.lt_trichotomy (L.idxOf n) k with h1 | h1 | h1
    · exact absurd hge (hno _ h1)
    · exact h1.symm
    · have hkl := (List.getElem?_eq_some_iff.1 hk).1
      have := List.not_of_lt_findIdx (p := (· == n)) (xs := L) (i := k) h1
      rw [(List.getElem?_eq_some_iff.1 hk).2] at this
      simp at this
  go_enter Try.func55, Try.ntmps55
  go_wp2_with fail
  go_loopw [8] (fun t wr => ∃ k : Nat, k ≤ L.length ∧ t = .int .i64 k ∧ (∀ j, j < k → L[j]? ≠ some n) ∧ wr = w) (fun t _ => L.length - (intOf t).toNat)
  case atStart => exact ⟨0, by omega, rfl, fun j hj => absurd hj (by omega), rfl⟩
  case round =>
    obtain ⟨k, hk, rfl, hno, rfl⟩ := hrel
    have HNO := Lib.hid hno
    clear hno
    by_cases hlt : k < L.length
    · obtain ⟨m, hm⟩ : ∃ m, L[k]? = some m := ⟨_, List.getElem?_eq_getElem hlt⟩
      obtain ⟨b, off, c', he, hb, h0⟩ := num_at H.out hm
      cases he
      have hi : (k : Int) < (L.length : Nat) := by omega
      have HM := Lib.hid hm
      clear hm
      by_cases heq : m = n
      · subst heq
        have HK := Lib.hid (HI.out k HM.out HNO.out)
        have h1 : (m == m) = true := by simp
        go_wp2_with fail
        go_ret
        exact ⟨by rw [← HK.out]; rfl, rfl⟩
      · have h1 : (n == m) = false := by simpa using fun h => heq h.symm
        go_wp2_with fail
        go_roundw
        case rel =>
          refine ⟨k + 1, by omega, by go_num, fun j hj => ?_, by trivial⟩
          rcases (by omega : j < k ∨ j = k) with h1 | rfl
          · exact HNO.out j h1
          · rw [HM.out]; intro e; exact heq (Option.some.inj e)
        case measure => simp [intOf]; omega
    · exfalso
      obtain ⟨j, hj, e⟩ := List.getElem_of_mem HN.out
      exact HNO.out j (by omega) (by rw [List.getElem?_eq_getElem hj, e])

theorem edge_sub {nodes : List Int} {rec : Int → Tj → Tj} (hrec : ∀ m t, m ∈ nodes → (∀ x ∈ t.vis, x ∈ nodes) → ∀ x ∈ (rec m t).vis, x ∈ nodes) {n m : Int} {t : Tj} (hm : m ∈ nodes) (ht : ∀ x ∈ t.vis, x ∈ nodes) : ∀ x ∈ (edgeT rec n t m).vis, x ∈ nodes := by
  unfold edgeT
  split
  · exact ht
  · split
    · exact hrec m t hm ht
    · split
      · exact ht
      · exact ht
theorem fold_sub {nodes : List Int} {rec : Int → Tj → Tj} (hrec : ∀ m t, m ∈ nodes → (∀ x ∈ t.vis, x ∈ nodes) → ∀ x ∈ (rec m t).vis, x ∈ nodes) {n : Int} : ∀ (D : List Int) (t : Tj), (∀ b ∈ D, b ∈ nodes) → (∀ x ∈ t.vis, x ∈ nodes) → ∀ x ∈ (D.foldl (edgeT rec n) t).vis, x ∈ nodes
  | [], _, _, ht => ht
  | m :: D, _, hD, ht => fold_sub hrec D _ (fun b hb => hD b (List.mem_cons_of_mem _ hb)) (edge_sub hrec (hD m (List.mem_cons_self ..)) ht)
theorem enter_sub {nodes : List Int} {s : Tj} {n : Int} (hn : n ∈ nodes) (hs : ∀ x ∈ s.vis, x ∈ nodes) : ∀ x ∈ (enterT s n).vis, x ∈ nodes := fun x hx => by
  rcases List.mem_append.1 hx with hx | hx
  · exact hs x hx
  · rw [List.mem_singleton] at hx; subst hx; exact hn
theorem walk_sub {next : Int → List Int} {nodes : List Int} (hnx : ∀ a b, b ∈ next a → b ∈ nodes) : ∀ (k : Nat) (n : Int) (s : Tj), n ∈ nodes → (∀ x ∈ s.vis, x ∈ nodes) → ∀ x ∈ (walkT next k n s).vis, x ∈ nodes
  | 0, _, _, _, hs => hs
  | k + 1, n, s, hn, hs => by
    have := fold_sub (n := n) (fun m t hm ht => walk_sub hnx k m t hm ht) (next n) (enterT s n) (fun b hb => hnx n b hb) (enter_sub hn hs)
    unfold walkT leaveT
    split
    · exact this
    · exact this
theorem vis_le {nodes : List Int} {s : Tj} (h : InvT s) (hs : ∀ x ∈ s.vis, x ∈ nodes) : s.vis.length ≤ nodes.length := nodup_le h.nd hs
theorem popT_zero (t : Tj) (P : List Int) : popT t P 0 = t := by
  unfold popT
  simp
theorem popT_succ {t : Tj} {P : List Int} {j : Nat} {x : Int} (h : P[j]? = some x) : popT t P (j + 1) = { popT t P j with on := updN (popT t P j).on x false, fnd := if 1 < P.length then updN (popT t P j).fnd x true else (popT t P j).fnd } := by
  have hm : ∀ y, y ∈ P.take (j + 1) ↔ y ∈ P.take j ∨ y = x := fun y => by rw [List.take_add_one, h]; simp
  have e1 : (popT t P (j + 1)).on = updN (popT t P j).on x false := by
    funext y
    show (if y ∈ P.take (j + 1) then false else t.on y) = if y = x then false else if y ∈ P.take j then false else t.on y
    by_cases hy : y = x
    · rw [if_pos hy, if_pos ((hm y).2 (.inr hy))]
    · rw [if_neg hy]
      by_cases hy2 : y ∈ P.take j
      · rw [if_pos hy2, if_pos ((hm y).2 (.inl hy2))]
      · rw [if_neg hy2, if_neg fun h' => ((hm y).1 h').elim hy2 hy]
  have e2 : (popT t P (j + 1)).fnd = if 1 < P.length then updN (popT t P j).fnd x true else (popT t P j).fnd := by
    by_cases hp : 1 < P.length
    · rw [if_pos hp]
      funext y
      show (t.fnd y || (decide (1 < P.length) && decide (y ∈ P.take (j + 1)))) = if y = x then true else (t.fnd y || (decide (1 < P.length) && decide (y ∈ P.take j)))
      by_cases hy : y = x
      · rw [if_pos hy, decide_eq_true ((hm y).2 (.inr hy)), decide_eq_true hp]; simp
      · rw [if_neg hy]
        by_cases hy2 : y ∈ P.take j
        · rw [decide_eq_true ((hm y).2 (.inl hy2)), decide_eq_true hy2]
        · rw [decide_eq_false (fun h' => ((hm y).1 h').elim hy2 hy), decide_eq_false hy2]
    · rw [if_neg hp]
      funext y
      show (t.fnd y || (decide (1 < P.length) && decide (y ∈ P.take (j + 1)))) = (t.fnd y || (decide (1 < P.length) && decide (y ∈ P.take j)))
      simp [hp]
  show popT t P (j + 1) = _
  rw [← e1, ← e2]
  rfl

theorem cf_walk (args : Array Value) (w : World) : (callFunc 54 args).run Try.prog w = .ok (.enter 54 args) w := by kernel_rfl
section
variable {p : TjBx} {B C : Nat} {next : Int → List Int} {nodes : List Int}
set_option maxHeartbeats 8000000 in
set_option maxRecDepth 100000 in
theorem walk_ok (hnx : ∀ a b, b ∈ next a → b ∈ nodes) (hnl : ∀ x, (next x).length ≤ 10000) (hnd : nodes.length ≤ 10000) : ∀ (k : Nat) (n : Int) (s : Tj) (W : World), TjAt p B C W next s → InvT s → (∀ x ∈ s.vis, x ∈ nodes) → s.ord n = 0 → n ∈ nodes → unvT nodes s ≤ k →
    Calls Try.prog 54 #[.int .i64 n, ptrV p.bo, ptrV p.bl, ptrV p.bs, ptrV p.bn, ptrV p.bx, ptrV p.bf, ptrV p.bw] W fun r W' => (∃ v, r = .returned v) ∧ TjAt p B C W' next (walkT next k n s) ∧ Upd (TjF p B) W W' := by
  intro k
  induction k with
  | zero =>
    intro n s W _ hs _ h0 hn hu
    have : 0 < unvT nodes s := List.countP_pos_iff.2 ⟨n, hn, decide_eq_true (hs.new h0)⟩
    omega
  | succ k ih =>
    intro n s W hT hs hsub h0 hn hu
    have hcf := cf_walk
    have hvl : s.vis.length ≤ 10000 := Nat.le_trans (vis_le hs hsub) hnd
    have HSL := Lib.hid (Nat.le_trans (nodup_le hs.stk_nodup fun x hx => (hs.iv x).1 (hs.sv x hx)) hvl)
    have HT := Lib.hid hT
    have HS := Lib.hid hs
    have HSU := Lib.hid hsub
    have H0 := Lib.hid h0
    have HN := Lib.hid hn
    have HUN := Lib.hid hu
    have HNX := Lib.hid hnx
    have HNL := Lib.hid hnl
    have hln := hT.lenO hs
    obtain ⟨v0, ⟨c1, c2, c3, c4, c5, c6, c7⟩, _, _⟩ := hT.cells
    obtain ⟨W1, hr1, hT1, hu1⟩ := hT.setOrd n (s.vis.length + 1) (by omega)
    have HR1 := Lib.hid hr1
    have HT1 := Lib.hid hT1
    have HU1 := Lib.hid hu1
    clear hT hs hsub h0 hn hu hnx hnl hr1 hT1 hu1
    go_enter Try.func54, Try.ntmps54
    go_upto_region 1 with (at_mapUpdate; refine wpList_update_run rfl _ _ _ _ rfl rfl rfl rfl HR1.out ?_)
    clear c1 c2 c3 c4 c5 c6 c7 hln
    obtain ⟨v1, ⟨c1, c2, c3, c4, c5, c6, c7⟩, _, _⟩ := HT1.out.cells
    have q1 := HT1.out.ordL n
    simp only [updN_same] at q1
    obtain ⟨W2, hr2, hT2, hu2⟩ := HT1.out.setLow n (s.vis.length + 1)
    have HR2 := Lib.hid hr2
    dsimp only at hT2
    have HT2 := Lib.hid hT2
    have HU2 := Lib.hid (HU1.out.trans hu2 fun _ _ h => h)
    clear hr2 hT2 hu2
    go_upto_region 2 with (at_mapUpdate; refine wpList_update_run rfl _ _ _ _ rfl rfl rfl rfl HR2.out ?_)
    clear c1 c2 c3 c4 c5 c6 c7 q1
    obtain ⟨v2, ⟨c1, c2, c3, c4, c5, c6, c7⟩, ho2, hb2⟩ := HT2.out.cells
    dsimp only at ho2
    obtain ⟨v3, W3, hr3, ho3, hg3, hb3⟩ := rkI.app1 ho2 HT2.out.size 25 n #[.int .i64 n] rfl (by have := HSL.out; show s.stk.length + 1 ≤ 100000; omega)
    obtain ⟨A3, k3, rfl, _⟩ := ho3.els.val
    obtain ⟨hT3, hu3, v', hbs3⟩ := HT2.out.store (w3 := W3) ((Upd.refl _ W2).grown hg3 fun k hk _ => ho2.new k hk) ho3
    dsimp only at hT3
    simp only [List.length_append, List.length_singleton] at hr3 hT3 hu3
    have HR3 := Lib.hid hr3
    have HT3 := Lib.hid hT3
    have HU3 := Lib.hid (HU2.out.trans hu3 fun _ _ h => h)
    have d3 := hbs3.cell 0
    have f3 := hbs3.frozen 0
    clear hr3 hT3 hu3 ho3 hg3 hb3 hbs3 ho2 hb2
    go_upto_region 3 with (at_builtin; refine wpList_append_run rfl _ _ _ rfl rfl rfl HR3.out ?_)
    clear c1 c2 c3 c4 c5 c6 c7 d3 f3
    obtain ⟨v4, ⟨c1, c2, c3, c4, c5, c6, c7⟩, _, _⟩ := HT3.out.cells
    obtain ⟨W4, hr4, hT4, hu4, _⟩ := HT3.out.setOn n true
    have HR4 := Lib.hid hr4
    dsimp only at hT4
    have HT4 := Lib.hid hT4
    have HU4 := Lib.hid (HU3.out.trans hu4 fun _ _ h => h)
    clear hr4 hT4 hu4
    go_upto_region 4 with (at_mapUpdate; refine wpList_update_run rfl _ _ _ _ rfl rfl rfl rfl HR4.out ?_)
    clear c1 c2 c3 c4 c5 c6 c7
    obtain ⟨v5, ⟨c1, c2, c3, c4, c5, c6, c7⟩, _, _⟩ := HT4.out.cells
    obtain ⟨vn, hl5, hvn, hvC⟩ := HT4.out.nextL n
    obtain ⟨An, cn, rfl, hcn⟩ := hvn.val
    have HVN := Lib.hid hvn
    have HVC := Lib.hid hvC
    clear hvn hvC
    have HT5 : Hid (TjAt p B C W4 next (enterT s n)) := Lib.hid ⟨HT4.out.fix, HT4.out.size, HT4.out.b3, HT4.out.ord, HT4.out.low, HT4.out.on, HT4.out.fnd⟩
    have HNE := Lib.hid HT.out.fix.ne
    have hnl := HNL.out n
    go_wp2_with fail
    clear c1 c2 c3 c4 c5 c6 c7 hl5
    go_loopw [35] (fun x wr => ∃ i : Nat, i ≤ (next n).length ∧ x = .int .i64 i ∧ TjAt p B C wr next (((next n).take i).foldl (edgeT (walkT next k) n) (enterT s n)) ∧ Upd (TjF p B) W4 wr) (fun x _ => (next n).length - (intOf x).toNat)
    case atStart => exact ⟨0, by omega, rfl, HT5.out, Upd.refl _ _⟩
    case round =>
      obtain ⟨i, hi, rfl, hTt, hu⟩ := hrel
      have HU := Lib.hid hu
      have HIN := Lib.hid (walkT_in HNX.out HS.out H0.out HN.out HUN.out ((next n).take i) fun b hb => HNX.out n b (List.mem_of_mem_take hb))
      have HSB := Lib.hid (fold_sub (n := n) (fun m t hm ht => walk_sub HNX.out k m t hm ht) ((next n).take i) (enterT s n) (fun b hb => HNX.out n b (List.mem_of_mem_take hb)) (enter_sub HN.out HSU.out))
      have HNXT : Hid (∀ m, (next n)[i]? = some m → ((next n).take (i + 1)).foldl (edgeT (walkT next k) n) (enterT s n) = edgeT (walkT next k) n (((next n).take i).foldl (edgeT (walkT next k) n) (enterT s n)) m) := Lib.hid fun m hm => by rw [List.take_add_one, hm, Option.toList_some, List.foldl_append]; rfl
      have HEND : Hid (i = (next n).length → (next n).foldl (edgeT (walkT next k) n) (enterT s n) = ((next n).take i).foldl (edgeT (walkT next k) n) (enterT s n)) := Lib.hid fun e => by rw [e, List.take_length]
      obtain ⟨t, ht⟩ : ∃ t, ((next n).take i).foldl (edgeT (walkT next k) n) (enterT s n) = t := ⟨_, rfl⟩
      rw [ht] at hTt HIN HSB HNXT HEND
      have HTT := Lib.hid hTt
      clear hu hTt ht
      obtain ⟨vt, ⟨c1, c2, c3, c4, c5, c6, c7⟩, hot, hbt⟩ := HTT.out.cells
      by_cases hlt : i < (next n).length
      · obtain ⟨m, hm⟩ : ∃ m, (next n)[i]? = some m := ⟨_, List.getElem?_eq_getElem hlt⟩
        obtain ⟨b, off, c', he, hb, q0⟩ := num_at (HVN.out.upd HU.out fun k hk hf => by
          have h1 := HVC.out k hk
          have h2 := HNE.out.c
          rcases hf with e | e | e | e | e | e <;> omega) hm
        cases he
        have hii : (i : Int) < ((next n).length : Nat) := by omega
        have HNXT := Lib.hid (HNXT.out m hm)
        have HMN := Lib.hid (HNX.out n m (List.mem_of_getElem? hm))
        clear hm hot hbt
        by_cases hmn : m = n
        · have HED : Hid (edgeT (walkT next k) n t m = { t with fnd := updN t.fnd n true }) := Lib.hid (by unfold edgeT; rw [if_pos hmn])
          obtain ⟨wf, hrf, hTf, huf, _⟩ := HTT.out.setFnd n
          have HRF := Lib.hid hrf
          have HTF := Lib.hid hTf
          have HUF := Lib.hid (HU.out.trans huf fun _ _ h => h)
          clear hrf hTf huf
          have hmb : (m == n) = true := by simpa using hmn
          go_wp2_with (at_mapUpdate; refine wpList_update_run rfl _ _ _ _ rfl rfl rfl rfl HRF.out ?_)
          go_roundw
          case rel => exact ⟨i + 1, by omega, by go_num, by rw [HNXT.out, HED.out]; exact HTF.out, HUF.out⟩
          case measure => simp [intOf]; omega
        · have hmb : (m == n) = false := by simpa using hmn
          by_cases hm0 : t.ord m = 0
          · have q := HTT.out.ordL m
            rw [hm0] at q
            have q : _ = Result.ok (Value.int .i64 0) wr := q
            have HED : Hid (edgeT (walkT next k) n t m = { walkT next k m t with low := updN (walkT next k m t).low n (min ((walkT next k m t).low n) ((walkT next k m t).low m)) }) := Lib.hid (by unfold edgeT; rw [if_neg hmn, if_pos hm0])
            have HM0 := Lib.hid hm0
            clear hm0
            simp only [TjBx.walkV] at c7
            go_wp2_with fail
            refine (ih m t wr HTT.out HIN.out.1.inv HSB.out HM0.out HMN.out HIN.out.2).mono ?_
            rintro r wu ⟨⟨vr, rfl⟩, hTu, huu⟩
            have HTU := Lib.hid hTu
            have HUU := Lib.hid (HU.out.trans huu fun _ _ h => h)
            clear c1 c2 c3 c4 c5 c6 c7 hTu huu q
            obtain ⟨vu, ⟨c1, c2, c3, c4, c5, c6, c7⟩, _, _⟩ := HTU.out.cells
            generalize walkT next k m t = u at *
            have l1 := HTU.out.lowL n
            have l2 := HTU.out.lowL m
            rcases Nat.lt_or_ge (u.low m) (u.low n) with hlo | hlo
            · have g1 : ((u.low m : Nat) : Int) < ((u.low n : Nat) : Int) := by omega
              have g2 : ¬ ((u.low n : Nat) : Int) ≤ ((u.low m : Nat) : Int) := by omega
              have g3 : ¬ ((u.low n : Nat) : Int) < ((u.low m : Nat) : Int) := by omega
              obtain ⟨wl, hrl, hTl, hul⟩ := HTU.out.setLow n (u.low m)
              have HRL := Lib.hid hrl
              have HTL := Lib.hid hTl
              have HUL := Lib.hid (HUU.out.trans hul fun _ _ h => h)
              have HMIN : Hid (min (u.low n) (u.low m) = u.low m) := Lib.hid (by omega)
              clear hrl hTl hul
              go_wp2_with (at_mapUpdate; refine wpList_update_run rfl _ _ _ _ rfl rfl rfl rfl HRL.out ?_)
              go_roundw
              case rel => exact ⟨i + 1, by omega, by go_num, by rw [HNXT.out, HED.out, HMIN.out]; exact HTL.out, HUL.out⟩
              case measure => simp [intOf]; omega
            · have g1 : ¬ ((u.low m : Nat) : Int) < ((u.low n : Nat) : Int) := by omega
              have g2 : ((u.low n : Nat) : Int) ≤ ((u.low m : Nat) : Int) := by omega
              obtain ⟨wl, hrl, hTl, hul⟩ := HTU.out.setLow n (u.low n)
              have HRL := Lib.hid hrl
              have HTL := Lib.hid hTl
              have HUL := Lib.hid (HUU.out.trans hul fun _ _ h => h)
              have HMIN : Hid (min (u.low n) (u.low m) = u.low n) := Lib.hid (by omega)
              clear hrl hTl hul
              go_wp2_with (at_mapUpdate; refine wpList_update_run rfl _ _ _ _ rfl rfl rfl rfl HRL.out ?_)
              go_roundw
              case rel => exact ⟨i + 1, by omega, by go_num, by rw [HNXT.out, HED.out, HMIN.out]; exact HTL.out, HUL.out⟩
              case measure => simp [intOf]; omega
          · have q := HTT.out.ordL m
            have hq0 : ((t.ord m : Nat) : Int) ≠ 0 := by omega
            have hq1 : (((t.ord m : Nat) : Int) == 0) = false := by simpa using hm0
            have qo := HTT.out.onL m
            cases hon : t.on m with
            | true =>
              have HED : Hid (edgeT (walkT next k) n t m = { t with low := updN t.low n (min (t.low n) (t.ord m)) }) := Lib.hid (by unfold edgeT; rw [if_neg hmn, if_neg hm0, if_pos hon])
              rw [hon] at qo
              have HTU := HTT
              have HUU := HU
              have l1 := HTU.out.lowL n
              have l2 := HTU.out.ordL m
              rcases Nat.lt_or_ge (t.ord m) (t.low n) with hlo | hlo
              · have g1 : ((t.ord m : Nat) : Int) < ((t.low n : Nat) : Int) := by omega
                have g2 : ¬ ((t.low n : Nat) : Int) ≤ ((t.ord m : Nat) : Int) := by omega
                have g3 : ¬ ((t.low n : Nat) : Int) < ((t.ord m : Nat) : Int) := by omega
                obtain ⟨wl, hrl, hTl, hul⟩ := HTU.out.setLow n (t.ord m)
                have HRL := Lib.hid hrl
                have HTL := Lib.hid hTl
                have HUL := Lib.hid (HUU.out.trans hul fun _ _ h => h)
                have HMIN : Hid (min (t.low n) (t.ord m) = t.ord m) := Lib.hid (by omega)
                clear hrl hTl hul
                go_wp2_with (at_mapUpdate; refine wpList_update_run rfl _ _ _ _ rfl rfl rfl rfl HRL.out ?_)
                go_roundw
                case rel => exact ⟨i + 1, by omega, by go_num, by rw [HNXT.out, HED.out, HMIN.out]; exact HTL.out, HUL.out⟩
                case measure => simp [intOf]; omega
              · have g1 : ¬ ((t.ord m : Nat) : Int) < ((t.low n : Nat) : Int) := by omega
                have g2 : ((t.low n : Nat) : Int) ≤ ((t.ord m : Nat) : Int) := by omega
                obtain ⟨wl, hrl, hTl, hul⟩ := HTU.out.setLow n (t.low n)
                have HRL := Lib.hid hrl
                have HTL := Lib.hid hTl
                have HUL := Lib.hid (HUU.out.trans hul fun _ _ h => h)
                have HMIN : Hid (min (t.low n) (t.ord m) = t.low n) := Lib.hid (by omega)
                clear hrl hTl hul
                go_wp2_with (at_mapUpdate; refine wpList_update_run rfl _ _ _ _ rfl rfl rfl rfl HRL.out ?_)
                go_roundw
                case rel => exact ⟨i + 1, by omega, by go_num, by rw [HNXT.out, HED.out, HMIN.out]; exact HTL.out, HUL.out⟩
                case measure => simp [intOf]; omega
            | false =>
              have HED : Hid (edgeT (walkT next k) n t m = t) := Lib.hid (by unfold edgeT; rw [if_neg hmn, if_neg hm0, if_neg (by rw [hon]; simp)])
              rw [hon] at qo
              go_wp2_with fail
              go_roundw
              case rel => exact ⟨i + 1, by omega, by go_num, by rw [HNXT.out, HED.out]; exact HTT.out, HU.out⟩
              case measure => simp [intOf]; omega
      · have hii : ¬ (i : Int) < ((next n).length : Nat) := by omega
        obtain rfl : i = (next n).length := by omega
        have HEND := Lib.hid (HEND.out rfl)
        have HWK : Hid (walkT next (k + 1) n s = leaveT t n) := Lib.hid (by show leaveT _ n = _; rw [HEND.out])
        obtain ⟨Y, hY, hix, hpt, htk⟩ := HIN.out.1.index HS.out H0.out
        have hlen : s.stk.length < t.stk.length := by rw [hY]; simp
        have HIX := Lib.hid hix
        have HPT := Lib.hid hpt
        have HPL : Hid ((partT t n).length = t.stk.length - s.stk.length) := Lib.hid (by unfold partT; rw [hix, List.length_drop])
        have HSN : Hid (n ∈ t.stk) := Lib.hid (by rw [hY]; simp)
        have HSL2 : Hid (t.stk.length ≤ 10000) := Lib.hid (Nat.le_trans (nodup_le HIN.out.1.inv.stk_nodup fun x hx => (HIN.out.1.inv.iv x).1 (HIN.out.1.inv.sv x hx)) (Nat.le_trans (vis_le HIN.out.1.inv HSB.out) hnd))
        have HTK := Lib.hid htk
        clear hY hix hpt htk
        have l1 := HTT.out.lowL n
        have l2 := HTT.out.ordL n
        rcases ownI_form hot with ⟨_, h0⟩ | ⟨g, cap, rfl, hcap⟩
        · rw [h0] at hlen; simp at hlen
        · have HOT := Lib.hid hot
          have HBT := Lib.hid hbt
          clear hot hbt
          by_cases hlo : t.low n = t.ord n
          · have hne : (((t.low n : Nat) : Int) != ((t.ord n : Nat) : Int)) = false := by rw [hlo]; simp
            have HLV : Hid (leaveT t n = { popT t (partT t n) (partT t n).length with stk := t.stk.take (t.stk.idxOf n) }) := Lib.hid (by unfold leaveT; rw [if_pos hlo])
            clear hlo
            go_wp2_with fail
            refine (index_ok HOT.out.els (Nat.le_trans HSL2.out (by omega)) HSN.out).mono ?_
            rintro r w9 ⟨rfl, hw9⟩
            obtain rfl : wr = w9 := hw9.symm
            rw [HIX.out]
            have hca : ¬ cap = s.stk.length := by omega
            have hsi : (s.stk.length : Int) ≤ (t.stk.length : Nat) := by omega
            have hsi2 : s.stk.length ≤ t.stk.length := by omega
            clear l1 l2
            go_wp2_with fail
            obtain ⟨wp, rfl⟩ : ∃ wp, wp = wr := ⟨_, rfl⟩
            clear c1 c2 c3 c4 c5 c6 c7
            have hdl : (((t.stk.length - s.stk.length : Nat)) : Int) ≤ 10000 := by have := HSL2.out; omega
            generalize hd : t.stk.length - s.stk.length = d at *
            have HD := Lib.hid hd
            clear hd
            go_loopw [91] (fun x wr => ∃ j : Nat, j ≤ d ∧ x = .int .i64 j ∧ TjAt p B C wr next (popT t (partT t n) j) ∧ Upd (TjF p B) W4 wr ∧ Upd (fun k => k = p.mn ∨ k = p.mf) wp wr) (fun x _ => d - (intOf x).toNat)
            case atStart => exact ⟨0, by omega, rfl, by rw [popT_zero]; exact HTT.out, HU.out, Upd.refl _ _⟩
            case round =>
              obtain ⟨j, hj, rfl, hTj, hu4, hu⟩ := hrel
              have HTJ := Lib.hid hTj
              have HUJ := Lib.hid hu4
              have HUP := Lib.hid hu
              have HROW : Hid (∀ W, Upd (fun k => k = p.mn ∨ k = p.mf) wp W → OwnI B W (.slice (some ⟨g, 0, none⟩) t.stk.length cap) t.stk ∧ Blk W p.bs 25 #[.slice (some ⟨g, 0, none⟩) t.stk.length cap]) := Lib.hid fun W hW => by
                have hm := HNE.out.m
                have hc := HNE.out.c
                obtain ⟨f2, hn, _⟩ := HTT.out.on
                refine ⟨HOT.out.upd hW fun k hk e => ?_, HBT.out.upd hW fun e => ?_⟩
                · have := HOT.out.new k hk
                  rcases e with e | e <;> omega
                · rcases e with e | e
                  · exact map_ne_blk hn HBT.out e
                  · exact map_ne_blk HTT.out.fnd HBT.out e
              clear hTj hu4 hu
              obtain ⟨vj, ⟨c1, c2, c3, c4, c5, c6, c7⟩, _, _⟩ := HTJ.out.cells
              by_cases hlt : j < d
              · have hji : (j : Int) < (d : Nat) := by omega
                obtain ⟨x, hx⟩ : ∃ x, (partT t n)[j]? = some x := ⟨_, List.getElem?_eq_getElem (by have := HPL.out; omega)⟩
                have hx2 : t.stk[s.stk.length + j]? = some x := by
                  unfold partT at hx
                  rw [HIX.out, List.getElem?_drop] at hx
                  exact hx
                obtain ⟨b, off, c', he, hb, q0⟩ := num_at (HROW.out _ HUP.out).1.els hx2
                cases he
                rw [Nat.zero_add] at q0
                have HSC := Lib.hid (popT_succ (t := t) hx)
                clear hx hx2
                obtain ⟨w1, hr1, hT1, hu1, hv1⟩ := HTJ.out.setOn x false
                obtain ⟨vk, ⟨d1, d2, d3, d4, d5, d6, d7⟩, _, _⟩ := hT1.cells
                have HR1 := Lib.hid hr1
                have HU1 := Lib.hid (HUJ.out.trans hu1 fun _ _ h => h)
                have HV1 := Lib.hid (HUP.out.trans (F := fun k => k = p.mn ∨ k = p.mf) hv1 fun k _ h => .inl h)
                by_cases hone : 1 < d
                · have hone' : (1 : Int) < (d : Nat) := by omega
                  obtain ⟨w2, hr2, hT2, hu2, hv2⟩ := hT1.setFnd x
                  have HR2 := Lib.hid hr2
                  have HU2 := Lib.hid (HU1.out.trans hu2 fun _ _ h => h)
                  have HV2 := Lib.hid (HV1.out.trans (F := fun k => k = p.mn ∨ k = p.mf) hv2 fun k _ h => .inr h)
                  have HT2 : Hid (TjAt p B C w2 next (popT t (partT t n) (j + 1))) := Lib.hid (by rw [HSC.out, if_pos (by rw [HPL.out]; exact hone)]; exact hT2)
                  clear hr1 hT1 hu1 hv1 hr2 hT2 hu2 hv2
                  go_wp2_with (first | (at_mapUpdate; refine wpList_update_run rfl _ _ _ _ rfl rfl rfl rfl HR1.out ?_) | (at_mapUpdate; refine wpList_update_run rfl _ _ _ _ rfl rfl rfl rfl HR2.out ?_))
                  go_roundw
                  case rel => exact ⟨j + 1, by omega, by go_num, HT2.out, HU2.out, HV2.out⟩
                  case measure => simp [intOf]; omega
                · have hone' : ¬ (1 : Int) < (d : Nat) := by omega
                  have HT2 : Hid (TjAt p B C w1 next (popT t (partT t n) (j + 1))) := Lib.hid (by rw [HSC.out, if_neg (by rw [HPL.out]; exact hone)]; exact hT1)
                  clear hr1 hT1 hu1 hv1
                  go_wp2_with (at_mapUpdate; refine wpList_update_run rfl _ _ _ _ rfl rfl rfl rfl HR1.out ?_)
                  go_roundw
                  case rel => exact ⟨j + 1, by omega, by go_num, HT2.out, HU1.out, HV1.out⟩
                  case measure => simp [intOf]; omega
              · have hji : ¬ (j : Int) < (d : Nat) := by omega
                obtain rfl : j = d := by omega
                obtain ⟨hrow, hblk⟩ := HROW.out _ HUP.out
                have c3' := hblk.cell 0
                have f3 := hblk.frozen 0
                have hst := HTJ.out.store (Upd.refl _ _) (ownI_cut hrow hsi2)
                have HST := Lib.hid hst.1
                have HUS := Lib.hid (HUJ.out.trans hst.2.1 fun _ _ h => h)
                clear hst hrow hblk c3
                go_wp2_with fail
                go_end0
                refine ⟨⟨_, rfl⟩, ?_, HU4.out.trans HUS.out fun _ _ h => h⟩
                rw [HWK.out, HLV.out, HIX.out, HPL.out]
                exact HST.out
          · have hne : (((t.low n : Nat) : Int) != ((t.ord n : Nat) : Int)) = true := by simp; omega
            have HLV : Hid (leaveT t n = t) := Lib.hid (by unfold leaveT; rw [if_neg hlo])
            clear hlo
            go_wp2_with fail
            refine bodyPost_ret (results_none rfl _ _ _) rfl ?_
            exact ⟨⟨_, rfl⟩, by rw [HWK.out, HLV.out]; exact HTT.out, HU4.out.trans HU.out fun _ _ h => h⟩
end
end Go.Proofs.Ytddknmgajacofaa
