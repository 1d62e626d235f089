/-
  The program's Serial.
-/
import Derived.Test.YtddknmgajacofaaTeU
import Derived.Test.YtddknmgajacofaaTeP
import Derived.Test.YtddknmgajacofaaTeZ
import Derived.Test.YtddknmgajacofaaTeN
import Derived.Test.YtddknmgajacofaaTeI
import Derived.Test.YtddknmgajacofaaFindB
import Derived.Test.YtddknmgajacofaaTfB
namespace Go.Proofs.Ytddknmgajacofaa
open Go Go.RowKit Go.Shelf
attribute [local go_sem] Oper.semAt_some

def wtN (E : Ed) (i : Nat) (t : Int) : Int := ((E.take i).filter fun e => decide (e.1 = t)).length
def bkN (E : Ed) (i : Nat) (t : Int) : List Int := ((E.take i).filter fun e => decide (e.2 = t)).map (·.1)
theorem wtN_succ {E : Ed} {i : Nat} {a b : Int} (h : E[i]? = some (a, b)) (t : Int) : wtN E (i + 1) t = if t = a then wtN E i a + 1 else wtN E i t := by
  unfold wtN
  rw [List.take_add_one, h, Option.toList_some, List.filter_append]
  by_cases e : t = a
  · subst e; simp
  · have : ¬ a = t := fun h => e h.symm
    simp [e, this]
theorem bkN_succ {E : Ed} {i : Nat} {a b : Int} (h : E[i]? = some (a, b)) (t : Int) : bkN E (i + 1) t = if t = b then bkN E i b ++ [a] else bkN E i t := by
  unfold bkN
  rw [List.take_add_one, h, Option.toList_some, List.filter_append, List.map_append]
  by_cases e : t = b
  · subst e; simp
  · have : ¬ b = t := fun h => e h.symm
    simp [e, this]
theorem wtN_le (E : Ed) (i : Nat) (t : Int) : 0 ≤ wtN E i t ∧ wtN E i t ≤ E.length := by
  unfold wtN
  have h := List.length_filter_le (fun e => decide (e.1 = t)) (E.take i)
  have h2 : (E.take i).length ≤ E.length := by simp; omega
  omega
theorem bkN_len (E : Ed) (i : Nat) (t : Int) : (bkN E i t).length ≤ E.length := by
  unfold bkN
  rw [List.length_map]
  refine Nat.le_trans (List.length_filter_le _ _) ?_
  simp
  omega
theorem wtN_all (E : Ed) (t : Int) : wtN E E.length t = (wtO E [] t : Int) := by
  unfold wtN wtO
  rw [List.take_length, List.countP_eq_length_filter]
  congr 3
  funext p
  simp
theorem bkN_all (E : Ed) (t : Int) : bkN E E.length t = bkO E t := by
  unfold bkN bkO
  rw [List.take_length]
set_option maxHeartbeats 4000000 in
set_option maxRecDepth 100000 in
theorem serial_ok {w : World} {v : Value} {l : List EvD} (h : EvsE w v l) (hl : l.length ≤ 60) : Calls Try.prog 7 #[v] w (SerOut w l) := by
  have hmm := @run_makeMap Try.prog
  have H := Lib.hid h
  clear h
  go_enter Try.func7, Try.ntmps7
  go_wp2_with fail
  refine (ahead_ok H.out hl).mono ?_
  rintro r w1 ⟨⟨v1, rfl, E, hoE, hE⟩, hu1⟩
  have HE := Lib.hid hE
  have HOE := Lib.hid hoE
  have HU1 := Lib.hid hu1
  have hle := hE.len hl
  clear hE hoE hu1
  obtain ⟨A1, c1, rfl, hc1⟩ := HOE.out.val
  go_wp2_with fail
  refine (victim_ok HOE.out hle).mono ?_
  rintro r w2 ⟨⟨n, b, rfl, hb⟩, hu2⟩
  have HU2 := Lib.hid (HU1.out.trans (F := Nowhere) hu2 fun _ _ => id)
  have HOE2 := Lib.hid (HOE.out.upd hu2 fun _ _ => id)
  clear hu2
  cases b with
  | true =>
    have HB := Lib.hid (hb.1 rfl)
    clear hb
    go_wp2_with fail
    go_ret2
    exact ⟨.inl ⟨E, HE.out, HB.out, rfl⟩, HU2.out⟩
  | false =>
    have HB : Hid (¬ Cyc E) := Lib.hid fun h => by have := hb.2 h; cases this
    clear hb HOE HU1
    go_upto_region 7 with (fail)
    have HX7 := Lib.hid ((Blk.new' (w2.alloc (.map #[] 0)) 47 #[.map (some w2.heap.size)] (show w2.heap.size + 1 = _ by simp)).alloc (.map #[] 0))
    have HWT := Lib.hid ((WtAt.new' w2 rfl).upd (((Upd.refl Nowhere (w2.alloc (.map #[] 0))).alloc (.cells #[.map (some w2.heap.size)] 47)).alloc (.map #[] 0)) id)
    have HGR : Hid (GrI (w2.heap.size + 1 + 1 + 1) (((w2.alloc (.map #[] 0)).alloc (.cells #[.map (some w2.heap.size)] 47)).alloc (.map #[] 0)) (w2.heap.size + 1 + 1) (fun _ => []) (fun _ => False)) := Lib.hid (by
      have := GrI.new (w2.heap.size + 1 + 1 + 1) ((w2.alloc (.map #[] 0)).alloc (.cells #[.map (some w2.heap.size)] 47))
      simpa using this)
    have HUS := Lib.hid ((((Upd.refl Nowhere w2).alloc (.map #[] 0)).alloc (.cells #[.map (some w2.heap.size)] 47)).alloc (.map #[] 0))
    have HSZ : Hid ((((w2.alloc (.map #[] 0)).alloc (.cells #[.map (some w2.heap.size)] 47)).alloc (.map #[] 0)).heap.size = w2.heap.size + 1 + 1 + 1) := Lib.hid (by simp)
    generalize ((w2.alloc (.map #[] 0)).alloc (.cells #[.map (some w2.heap.size)] 47)).alloc (.map #[] 0) = wS at *
    obtain ⟨N, hN⟩ : ∃ N, w2.heap.size = N := ⟨_, rfl⟩
    rw [hN] at HX7 HWT HGR HSZ
    simp only [hN]
    have HN := Lib.hid hN
    have HZ2 := Lib.hid HU2.out.size
    clear hN
    go_wp2_with fail
    go_loopw [29] (fun s wr => ∃ i : Nat, i ≤ E.length ∧ s = .int .i64 i ∧ WtAt wr N (wtN E i) ∧ (∃ dom, GrI (N + 1 + 1 + 1) wr (N + 1 + 1) (bkN E i) dom) ∧ Blk wr (N + 1) 47 #[.map (some N)] ∧ Upd Nowhere w2 wr ∧ N + 1 + 1 + 1 ≤ wr.heap.size) (fun s _ => E.length - (intOf s).toNat)
    case atStart => exact ⟨0, by omega, rfl, HWT.out.congr fun t => by simp [wtN], ⟨_, HGR.out.congr (fun t => by simp [bkN]) fun _ => Iff.rfl⟩, HX7.out, HUS.out, Nat.le_of_eq HSZ.out.symm⟩
    case round =>
      obtain ⟨i, hi, rfl, hw, ⟨dom, hg⟩, h7, hu, hsw⟩ := hrel
      have HU := Lib.hid hu
      have HG := Lib.hid hg
      have HW := Lib.hid hw
      have H7 := Lib.hid h7
      have HSW := Lib.hid hsw
      clear hw hg hu h7 hsw
      by_cases hlt : i < E.length
      · obtain ⟨⟨a, b⟩, he⟩ : ∃ e, E[i]? = some e := ⟨_, List.getElem?_eq_getElem hlt⟩
        obtain ⟨b1, o1, c1', hE1, hb1, q0, q1⟩ := edge_at (HOE2.out.upd HU.out fun _ _ => id) he
        cases hE1
        have hii : (i : Int) < (E.length : Nat) := by omega
        have HP := Lib.hid he
        clear he
        go_upto_region 9 with (fail)
        go_cut [10, 29] (fun s t wz => s = .pointer (some ⟨wr.heap.size, 0, none⟩) ∧ t = .int .i64 i ∧ ∃ W, W = wz ∧ Blk W wr.heap.size 44 #[.int .i64 a, .int .i64 b] ∧ Upd Nowhere wr W)
        case first =>
          have hb0 := Blk.new wr 44 #[.int .i64 0, .int .i64 0]
          have c0 := hb0.cell
          have f0 := hb0.frozen
          clear hb0
          go_wp2_with fail
          go_meet
          exact ⟨rfl, rfl, _, rfl, Blk.new _ _ _, (Upd.refl _ _).alloc _⟩
        case rest =>
          obtain ⟨rfl, rfl, W, rfl, hB, hu⟩ := hcut
          have HGW := Lib.hid (HG.out.upd hu id fun _ _ _ _ _ => id)
          have HWW := Lib.hid (HW.out.upd hu id)
          have HUW := Lib.hid (HU.out.trans (F := Nowhere) hu fun _ _ h => h)
          have HBW := Lib.hid hB
          have H7W := Lib.hid (H7.out.upd hu id)
          have HSB := Lib.hid (show N + 1 + 1 + 1 ≤ wr.heap.size ∧ wr.heap.size < W.heap.size from ⟨HSW.out, hB.lt⟩)
          clear q0 q1 hB hu
          have c10 := HBW.out.cell
          have c7 := H7W.out.cell
          have hlk0 := HWW.out.look a
          obtain ⟨Wa, hra, hwa, hua, hsa⟩ := HWW.out.set a (wtN E i a + 1)
          have hle1 := wtN_le E i a
          generalize hq : wtN E i a = q at *
          have HRA := Lib.hid hra
          have HWA := Lib.hid (hwa.congr (c' := wtN E (i + 1)) fun t => by rw [wtN_succ HP.out, hq])
          have n2 := HSB.out
          have HGA := Lib.hid (HGW.out.upd hua (by omega) fun k cs fz hk _ => by omega)
          have HUA := Lib.hid (HUW.out.trans (F := Nowhere) hua fun k hk h => by have := HN.out; omega)
          have HBA := Lib.hid (HBW.out.upd hua (by omega))
          have H7A := Lib.hid (H7W.out.upd hua (by omega))
          have HSA := Lib.hid (show N + 1 + 1 + 1 ≤ wr.heap.size ∧ wr.heap.size < Wa.heap.size from ⟨n2.1, by omega⟩)
          clear hra hwa hua hsa n2
          obtain ⟨vv, hlk, hov, hla, _⟩ := HGA.out.drew.look b
          obtain ⟨v', W1, W2, hr1, hr2, hG2, hU2, hE2, _⟩ := HGA.out.drew.push (by have := HSA.out; simp; omega) (by omega) b a (Nat.le_trans (bkN_len E i b) (by omega)) hlk
          have hbn : vv.ownBlock ≠ some wr.heap.size := OwnR.blk_ne (TE := 3) hov HBA.out.drew (by decide)
          have hbn7 : vv.ownBlock ≠ some (N + 1) := OwnR.blk_ne (TE := 3) hov H7A.out.drew (by decide)
          have hx := hE2 wr.heap.size (by have := HSA.out; simp; omega) (by have := HSA.out; omega) hbn
          have hx7 := hE2 (N + 1) (by have := HSA.out; simp; omega) (by omega) hbn7
          have cW := HBA.out.cell
          have K1 : Hid (Blk W1 wr.heap.size 44 #[.int .i64 a, .int .i64 b]) := Lib.hid (hx.1.trans HBA.out)
          have K2 : Hid (Blk W2 wr.heap.size 44 #[.int .i64 a, .int .i64 b]) := Lib.hid (hx.2.trans HBA.out)
          have H72 : Hid (Blk W2 (N + 1) 47 #[.map (some N)]) := Lib.hid (hx7.2.trans H7A.out)
          have hla : (Instr.lookup 48 (.map (some (N + 1 + 1))) (.int .i64 b) false).run Try.prog (Wa.alloc (.cells #[.int .i64 a] 3)).drew = .ok vv (Wa.alloc (.cells #[.int .i64 a] 3)).drew := hla (.cells #[.int .i64 a] 3)
          have HR1 : Hid ((Builtin.append_ #[25, 25] 25 #[vv, .slice (some ⟨Wa.heap.size, 0, none⟩) 1 1]).run Try.prog (Wa.alloc (.cells #[.int .i64 a] 3)).drew = .ok v' W1) := Lib.hid hr1
          have HG2 := Lib.hid hG2
          have HU2b := Lib.hid hU2
          clear hov hr1 hG2 hU2 hE2 hbn hbn7 hx hx7
          go_upto_region 11 with (at_mapUpdate; refine wpList_update_run rfl _ _ _ _ rfl rfl rfl rfl HRA.out ?_)
          clear hlk0 c10 c7
          have HGF := Lib.hid (HG2.out.congr (g' := bkN E (i + 1)) (fun t => (bkN_succ HP.out t).symm) fun _ => Iff.rfl)
          have HWF := Lib.hid (HWA.out.upd (((Upd.refl (fun k => k = N + 1 + 1 ∨ N + 1 + 1 + 1 ≤ k) Wa).drew).trans HU2b.out fun _ _ h => h) (by omega))
          have HUF := Lib.hid (HUA.out.drew.trans (F := Nowhere) HU2b.out fun k hk h => by have := HN.out; omega)
          have HSF := Lib.hid (show N + 1 + 1 + 1 ≤ W2.heap.size from Nat.le_trans (Nat.le_trans HSA.out.1 (Nat.le_of_lt HSA.out.2)) HU2b.out.size)
          go_region_held3 (fun w' => w'.cell? ⟨wr.heap.size, 0, none⟩ = some (.int .i64 a) ∧ w'.cell? ⟨wr.heap.size, 1, none⟩ = some (.int .i64 b)) (first | exact ⟨cW 0, cW 1⟩ | exact ⟨K1.out.cell 0, K1.out.cell 1⟩ | exact ⟨K2.out.cell 0, K2.out.cell 1⟩ | go_keep)
            (refine step_append_run rfl _ _ _ rfl rfl rfl HR1.out ?_)
          all_goals
            go_wp2_with fail
            go_roundw
            case rel => exact ⟨i + 1, by omega, by go_num, HWF.out, ⟨_, HGF.out⟩, H72.out, HUF.out, HSF.out⟩
            case measure => simp [intOf]; omega
      · have hii : ¬ (i : Int) < (E.length : Nat) := by omega
        obtain rfl : i = E.length := by omega
        obtain ⟨wo, rfl⟩ : ∃ wo, wo = wr := ⟨_, rfl⟩
        have HWT2 : Hid (WtAt wo N fun t => (wtO E [] t : Int)) := Lib.hid (HW.out.congr fun t => wtN_all E t)
        have HG2 : Hid (GrI (N + 1 + 1 + 1) wo (N + 1 + 1) (bkO E) dom) := Lib.hid (HG.out.congr (fun t => bkN_all E t) fun _ => Iff.rfl)
        have HCM := Lib.hid HE.out.com
        have HCE := Lib.hid (committed_ok (H.out.upd (HU2.out.trans (F := Nowhere) HU.out fun _ _ => id) fun _ _ => id) (by omega))
        have HND := Lib.hid (ordN_nodup l l.length)
        have hlen := ordN_len l l.length
        obtain ⟨com, hcom⟩ : ∃ com, ordN l l.length = com := ⟨_, rfl⟩
        rw [hcom] at HCM HND HCE hlen
        have HCO := Lib.hid hcom
        clear hcom HW HG HWT HGR HX7 HSZ HOE2
        go_upto_region 14 with (go_at_call 11; refine HCE.out.mono ?_; rintro e w3 ⟨v3, rfl, ho3, hu3⟩)
        have HSO := Lib.hid (isort_ok ho3 (by omega))
        have HNW := Lib.hid ho3.new
        obtain ⟨A3, n3, rfl, hA3⟩ := ho3.els.val
        have HU3 := Lib.hid hu3
        clear ho3 hu3
        go_upto_region 15 with (go_at_call 21; refine HSO.out.mono ?_; rintro e w4 ⟨rfl, ho4, hu4⟩)
        have HU4 : Hid (Upd (fun k => k = N ∨ wo.heap.size ≤ k) wo w4) := Lib.hid (((HU3.out.mono fun _ _ h => h.elim).trans (F := fun k => wo.heap.size ≤ k) hu4 fun k hk e => HNW.out k e).mono fun k _ h => .inr h)
        have HWR := Lib.hid (HWT2.out.upd ((HU3.out.mono fun _ _ h => h.elim).trans (F := fun k => wo.heap.size ≤ k) hu4 fun k hk e => HNW.out k e) (by have := HWT2.out.lt; omega))
        have HG4 : Hid (∀ w', Upd (fun k => k = N ∨ wo.heap.size ≤ k) wo w' → GrI (N + 1 + 1 + 1) w' (N + 1 + 1) (bkO E) dom) := Lib.hid fun w' hu => HG2.out.upd hu (by have := HG2.out.lt; omega) fun k cs fz hk hc h => by have := lt_of_heap hc; omega
        have H74 : Hid (∀ w', Upd (fun k => k = N ∨ wo.heap.size ≤ k) wo w' → Blk w' (N + 1) 47 #[.map (some N)]) := Lib.hid fun w' hu => H7.out.upd hu (by have := H7.out.lt; omega)
        have HSR : Hid (N + 1 + 1 + 1 ≤ wo.heap.size) := Lib.hid HSW.out
        have HSS := Lib.hid (SerI.start (E := E) HND.out)
        have HO4 := Lib.hid ho4
        have HUR := Lib.hid (HU2.out.trans (F := Nowhere) HU.out fun _ _ => id)
        clear ho4 hu4 HSO HCE HWT2 HG2 HU3 HUS HU2 H HSW H7
        obtain ⟨V4, hV4⟩ : ∃ V, V = Value.slice A3 com.length n3 := ⟨_, rfl⟩
        rw [← hV4] at HO4 HNW
        simp only [← hV4]
        clear hV4
        go_wp2_with fail
        go_loopw [11, 12] (fun s u wa => ∃ L O, SerI E com O L ∧ OwnI wo.heap.size wa s L ∧ OwnI wo.heap.size wa u O ∧ (∀ k, s.ownBlock = some k → u.ownBlock ≠ some k) ∧ WtAt wa N (fun t => (wtO E O t : Int)) ∧ Upd (fun k => k = N ∨ wo.heap.size ≤ k) wo wa) (fun s _ _ => lenV s)
        case atStart => exact ⟨_, [], HSS.out, HO4.out.far HNW.out, OwnR.nil _ _ _ _ _, fun k _ h => (by cases h), HWR.out, HU4.out⟩
        case round =>
          obtain ⟨L, O, hI, hoL, hoO, hdis, hwt, hu⟩ := hrel
          have HI := Lib.hid hI
          have HOL := Lib.hid hoL
          have HOO := Lib.hid hoO
          have HDIS := Lib.hid hdis
          have HWT := Lib.hid hwt
          have HU := Lib.hid hu
          have HLEN := Lib.hid (ownI_len hoL)
          obtain ⟨A5, n5, rfl, hA5⟩ := hoL.els.val
          clear hI hoL hoO hdis hwt hu
          by_cases hlt : 0 < L.length
          · have hli : (L.length : Int) > 0 := by omega
            have hli' : (0 : Int) < (L.length : Nat) := by omega
            obtain ⟨i, x, hx, h0, hf⟩ := HI.out.first HB.out HCM.out HND.out hlt
            obtain ⟨hnI, hxo⟩ := HI.out.next hx h0 hf
            have hil := (List.getElem?_eq_some_iff.1 hx).1
            have hlc : L.length ≤ com.length := by have := HI.out.len; omega
            have HIX := Lib.hid (index_first HOL.out.els (by omega) (H74.out _ HU.out) HWT.out hx (by omega) fun j y hj hy => by have := hf j y hj hy; omega)
            obtain ⟨b6, o6, c6, he6, hb6, q6⟩ := num_at HOL.out.els hx
            cases he6
            have hdel := idelete_ok HOL.out hil
            rw [show ((i + 1 : Nat) : Int) = (i : Int) + 1 by omega] at hdel
            have HDEL := Lib.hid hdel
            have HNI := Lib.hid hnI
            have HXO := Lib.hid hxo
            have hii2 : (i : Int) < (L.length : Nat) := by omega
            have hi0 : (0 : Int) ≤ i := by omega
            clear hdel hnI hxo hf hx h0 
            have c7 := (H74.out _ HU.out).cell
            go_upto_region 18 with (go_at_call 22; refine HIX.out.mono ?_; rintro e w9 ⟨rfl, hw9⟩; obtain rfl : wr = w9 := hw9.symm)
            go_upto_region 19 with (fail)
            go_upto_region 20 with (go_at_call 24; refine HDEL.out.mono ?_; rintro e wb ⟨v', rfl, hod, hown, hud⟩)
            have HOB := Lib.hid (HOO.out.upd hud fun k hk e => HDIS.out k e hk)
            have HUB := Lib.hid (HU.out.trans (F := fun k => k = N ∨ wo.heap.size ≤ k) hud fun k _ e => .inr (HOL.out.new k e))
            have HWB := Lib.hid (HWT.out.upd hud fun e => by have := HOL.out.new _ e; have := HSR.out; omega)
            have HOD := Lib.hid hod
            have HDI : Hid (∀ k, v'.ownBlock = some k → u12.ownBlock ≠ some k) := Lib.hid fun k hk => HDIS.out k (hown ▸ hk)
            have hlo : O.length + L.length = com.length := by have := HI.out.len; omega
            obtain ⟨v3, wc, hr3, ho3, hg3, hb3⟩ := rkI.app1 HOB.out HUB.out.size 25 x #[.int .i64 x] rfl (by omega)
            have HR3 := Lib.hid hr3
            have HO3 := Lib.hid ho3
            have HOL3 := Lib.hid (HOD.out.upd (F := fun k => u12.ownBlock = some k) ((Upd.refl _ wb).grown hg3 fun k hk _ => hk) fun k hk e => HDI.out k hk e)
            have HU3 := Lib.hid (HUB.out.grown hg3 fun k hk _ => .inr (HOB.out.new k hk))
            have HWT3 := Lib.hid (HWB.out.upd (F := fun k => u12.ownBlock = some k) ((Upd.refl _ wb).grown hg3 fun k hk _ => hk) fun e => by have := HOB.out.new _ e; have := HSR.out; omega)
            have HD3 : Hid (∀ k, v'.ownBlock = some k → v3.ownBlock ≠ some k) := Lib.hid fun k hk e => by
              rcases hb3 k e with h1 | h1
              · exact HDI.out k hk h1
              · have := HOD.out.lt hk; omega
            clear hod hown hud hr3 ho3 hg3 hb3 q6 HDEL HIX c7
            go_upto_region 21 with (at_builtin; refine wpList_append_run rfl _ _ _ rfl rfl rfl HR3.out ?_)
            obtain ⟨vv, hlk, hov, _, _⟩ := (HG4.out _ HU3.out).look x
            obtain ⟨A7, n7, rfl, hA7⟩ := hov.els.val
            have HOV := Lib.hid hov
            clear hov
            go_wp2_with fail
            obtain ⟨wd, rfl⟩ : ∃ wd, wd = wc := ⟨_, rfl⟩
            go_loopw [77] (fun s wr => ∃ j : Nat, j ≤ (bkO E x).length ∧ s = .int .i64 j ∧ WtAt wr N (wtJ E O x j) ∧ Upd (fun k => k = N) wd wr) (fun s _ => (bkO E x).length - (intOf s).toNat)
            case atStart => exact ⟨0, by omega, rfl, HWT3.out.congr fun t => (wtJ_zero E O x t).symm, Upd.refl _ _⟩
            case round =>
              obtain ⟨j, hj, rfl, hwt, hu⟩ := hrel
              have HUD := Lib.hid hu
              have HWD := Lib.hid hwt
              clear hwt hu
              by_cases hjl : j < (bkO E x).length
              · obtain ⟨y, hy⟩ : ∃ y, (bkO E x)[j]? = some y := ⟨_, List.getElem?_eq_getElem hjl⟩
                have hns := HSR.out
                have hnw := HWT3.out.lt
                obtain ⟨b8, o8, c8, he8, hb8, q8⟩ := num_at (HOV.out.upd HUD.out fun k hk e => by have := HOV.out.new k hk; omega).els hy
                cases he8
                have hjj : (j : Int) < ((bkO E x).length : Nat) := by omega
                have hbl := bkO_len E x
                have HY := Lib.hid hy
                have c7 := (H74.out _ (HU3.out.trans (F := fun k => k = N ∨ wo.heap.size ≤ k) HUD.out fun k _ e => .inl e)).cell
                have hlk2 := HWD.out.look y
                obtain ⟨W5, hr5, hw5, hu5, hs5⟩ := HWD.out.set y (wtJ E O x j y - 1)
                have hrg := wtJ_range E O x j y hle
                generalize hq : wtJ E O x j y = q at *
                have HR5 := Lib.hid hr5
                have HW5 := Lib.hid (hw5.congr (c' := wtJ E O x (j + 1)) fun t => by rw [wtJ_succ HY.out, hq])
                have HU5 := Lib.hid (HUD.out.trans hu5 fun _ _ => id)
                clear hr5 hw5 hu5 hs5 hy hq
                go_wp2_with (at_mapUpdate; refine wpList_update_run rfl _ _ _ _ rfl rfl rfl rfl HR5.out ?_)
                go_roundw
                case rel => exact ⟨j + 1, by omega, by go_num, HW5.out, HU5.out⟩
                case measure => simp [intOf]; omega
              · have hjj : ¬ (j : Int) < ((bkO E x).length : Nat) := by omega
                obtain rfl : j = (bkO E x).length := by omega
                go_wp2_with fail
                go_roundw
                case rel =>
                  have hns := HSR.out
                  refine ⟨_, _, HNI.out, HOL3.out.upd HUD.out fun k hk e => by have := HOL3.out.new k hk; omega, HO3.out.upd HUD.out fun k hk e => by have := HO3.out.new k hk; omega, HD3.out, HWD.out.congr fun t => wtJ_end E HXO.out t, HU3.out.trans HUD.out fun k _ e => .inl e⟩
                case measure =>
                  rw [ownI_len HOL3.out]
                  simp [lenV]
                  omega
          · have hli' : ¬ (0 : Int) < (L.length : Nat) := by omega
            have hli : ¬ (L.length : Int) > 0 := by omega
            go_wp2_with fail
            go_ret2
            have hln := HI.out.len
            have hns := HSR.out
            refine ⟨.inr ⟨E, _, O, HE.out, HB.out, rfl, HOO.out.els, by rw [HCO.out]; exact HI.out.ser, by rw [HCO.out]; omega⟩, HUR.out.trans (F := Nowhere) HU.out fun k hk e => ?_⟩
            have := HUR.out.size
            have := HN.out
            have := HZ2.out
            omega
end Go.Proofs.Ytddknmgajacofaa
