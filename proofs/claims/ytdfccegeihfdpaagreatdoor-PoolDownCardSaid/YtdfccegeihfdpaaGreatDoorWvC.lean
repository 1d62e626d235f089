/-
  Layer 4: a map cloned; the disk that a crash leaves.
-/
import Derived.Test.YtdfccegeihfdpaaGreatDoorWm2
import Derived.Shelf.SlMaps.Clone
import Derived.Deep.RegionLaw
namespace Go.Proofs.YtdfccegeihfdpaaGreatDoor
open Go Go.RowKit

section
variable {P : Program} {ops : Array Oper} {o : Oper} {a : Act} {Q : Exit → Act → World → Prop} {w : World}
theorem step_lookup_run {K : Act → World → Prop} {E : Prop} (hg : o.guard = none) (m x : Operand) (t : TypeId) (c : Bool) (ho : o.op = Op.lookup t m x c) {mv kv v : Value}
    (hm : a.eval m = mv) (hx : a.eval x = kv) (hrun : (Instr.lookup t mv kv c).run P w = .ok v w) (h : K (a.put o.dst v) w) :
    if Region.wanted o (yielded ops a.tmps) = true then Oper.wp P o a w K Q else E := by
  have hw : Region.wanted o (yielded ops a.tmps) = true := by simp [Region.wanted, hg]
  rw [if_pos hw]
  unfold Oper.wp
  simp only [execOp, ho, hm, hx, Sem.run_bind, hrun, Result.andThen, Sem.run_pure]
  exact h
theorem step_update_run {K : Act → World → Prop} {E : Prop} (hg : o.guard = none) (m x y : Operand) (t : TypeId) (ho : o.op = Op.mapUpdate t m x y) {mv kv v : Value} {w' : World}
    (hm : a.eval m = mv) (hx : a.eval x = kv) (hy : a.eval y = v) (hrun : (Instr.mapUpdate t mv kv v).run P w = .ok () w') (h : K (a.put o.dst undef) w') :
    if Region.wanted o (yielded ops a.tmps) = true then Oper.wp P o a w K Q else E := by
  have hw : Region.wanted o (yielded ops a.tmps) = true := by simp [Region.wanted, hg]
  rw [if_pos hw]
  unfold Oper.wp
  simp only [execOp, ho, hm, hx, hy, Sem.run_bind, hrun, Result.andThen, Sem.run_pure]
  exact h
end
set_option maxRecDepth 100000 in
set_option maxHeartbeats 2000000 in
theorem clone_ok {w : World} {b : Nat} {f : Int → Option Bs} (h : MapIs intK w b (encF f)) : Calls Tryz.prog 53 #[.map (some b)] w fun e w' =>
    e = .returned (.map (some w.heap.size)) ∧ MapIs intK w' w.heap.size (encF f) ∧ Upd Nowhere w w' ∧ w'.heap.size = w.heap.size + 1 := by
  obtain ⟨es, ck, h1, h2⟩ := h
  have hq := fun w => run_eql_map_nil_sl (P := Tryz.prog) w 104 _ _ (some b) Tryz.underlying104
  have HE := Lib.hid h2
  clear h2
  go_enter Tryz.func53, Tryz.ntmps53
  go_wp2_with fail
  rw [run_callFunc_extern Tryz.func104 (by kernel_rfl) (by kernel_rfl) (by kernel_rfl) (e := Extern.MapsClone.clone) (by kernel_rfl), run_maps_clone_sl w 104 h1]
  simp only [Result.andThen]
  rw [Oper.upon_value]
  go_wp2_with fail
  rw [run_typeAssert_map_sl _ 104 _ _ _ _ Tryz.underlying104]
  simp only [Result.andThen]
  rw [Oper.upon_value]
  go_wp2_with fail
  go_ret
  exact ⟨rfl, ⟨es, ck, heap_alloc_new w _, HE.out⟩, (Upd.refl Nowhere w).alloc _, by simp⟩
theorem ext_take' (d : Bs) (o : Nat) : (⟨d.toArray⟩ : ByteArray).extract 0 o = ⟨(d.take o).toArray⟩ := by
  apply ByteArray.ext
  simp [ByteArray.data_extract]
theorem ext_drop' (d : Bs) (o : Nat) : (⟨d.toArray⟩ : ByteArray).extract o d.length = ⟨(d.drop o).toArray⟩ := by
  apply ByteArray.ext
  simp only [ByteArray.data_extract, List.extract_toArray, List.extract_eq_take_drop]
  rw [List.take_of_length_le (by rw [List.length_drop]; exact Nat.le_refl _)]
def keptF (l : List Int) : Int → Option Value := fun a => if a ∈ l then some (.bool true) else none
theorem keptF_snoc {l : List Int} {k : Nat} {x : Int} (h : l[k]? = some x) : keptF (l.take (k + 1)) = putF (keptF (l.take k)) x (some (.bool true)) := by
  obtain ⟨hk, rfl⟩ := List.getElem?_eq_some_iff.1 h
  funext a
  unfold keptF putF
  have e : l.take (k + 1) = l.take k ++ [l[k]] := (List.take_append_getElem hk).symm
  rw [e]
  generalize l[k] = y
  by_cases ha : a = y
  · rw [if_pos ha, if_pos (by rw [ha]; simp)]
  · rw [if_neg ha]
    by_cases hb : a ∈ l.take k
    · show _ = (if _ then _ else _)
      rw [if_pos hb, if_pos (List.mem_append_left _ hb)]
    · show _ = (if _ then _ else _)
      rw [if_neg hb, if_neg (fun h => by
        rcases List.mem_append.1 h with h | h
        · exact hb h
        · exact ha (List.mem_singleton.1 h))]
/-- The disk that a crash leaves, while it is made. -/
structure CrsK (w4 : World) (p1 : DkP) (mk sz : Nat) (keep : List Int) (F : Int → Option Bs) (wr : World) : Prop where
  dk : DiskAt wr p1 ⟨sz, F, fun _ => none, [], -1, false, 0⟩
  kp : MapIs intK wr mk (keptF keep)
  upd : Upd (fun k => k = p1.ms) w4 wr
  ne : mk ≠ p1.ms
  len : ∀ q s, F q = some s → s.length = 256
theorem CrsK.new {w4 wr : World} {p1 : DkP} {mk sz : Nat} {keep : List Int} {F : Int → Option Bs} (h : CrsK w4 p1 mk sz keep F wr) (x : Int × Bs) : CrsK w4 p1 mk sz keep F (wr.alloc (.cells #[.int .i64 x.1, strV x.2] 111)) :=
  ⟨h.dk.up ((Upd.refl _ wr).alloc _), h.kp.alloc _, h.upd.alloc _, h.ne, h.len⟩
theorem cutOver_len {b was : Bs} (hb : b.length = 256) (hw : was.length = 256) {cc : Nat} (hc : cc ≤ 256) : (cutOver b was cc).length = 256 := by
  unfold cutOver
  rw [List.length_append, List.length_take, List.length_drop, hb, hw]
  omega
theorem CrsK.put {w4 wA : World} {p1 : DkP} {mk sz : Nat} {keep : List Int} {F : Int → Option Bs} (h : CrsK w4 p1 mk sz keep F wA) (xn : Int) {b was : Bs} (hb : b.length = 256) (hw : was.length = 256) {cc : Nat} (hc : cc ≤ 256) :
    ∃ w6, (Instr.mapUpdate 104 (.map (some p1.ms)) (.int .i64 xn) (.string ((⟨b.toArray⟩ : ByteArray).extract 0 cc ++ (⟨was.toArray⟩ : ByteArray).extract cc 256))).run Tryz.prog wA.drew = .ok () w6 ∧ CrsK w4 p1 mk sz keep (putF F xn (some (cutOver b was cc))) w6 := by
  have hd := h.dk.up (Upd.refl Nowhere wA).drew
  have hk := h.kp.upd (Upd.refl Nowhere wA).drew id
  obtain ⟨w6, hrun, hM, hg, _⟩ := hd.syn.store (keyInt .i64) Tryz.underlying104 Tryz.underlying3 xn (.string ((⟨b.toArray⟩ : ByteArray).extract 0 cc ++ (⟨was.toArray⟩ : ByteArray).extract cc 256))
  have hU : Upd (fun k => k = p1.ms) wA.drew w6 := ⟨hg.os, hg.tape, hg.output, hg.size, fun q hq hn => hg.block q hq fun e => hn (Option.some.inj e)⟩
  have e1 := ext_drop' was cc
  rw [hw] at e1
  have e : Value.string ((⟨b.toArray⟩ : ByteArray).extract 0 cc ++ (⟨was.toArray⟩ : ByteArray).extract cc 256) = strV (cutOver b was cc) := by
    rw [ext_take', e1]
    unfold cutOver
    congr 1
  rw [e, ← encF_put] at hM
  refine ⟨w6, hrun, ⟨hd.blk.upd hU hd.d_ms, hM, hd.now.upd hU (fun e => hd.ne e.symm), hd.pend.upd hU fun k hk e => hd.v_ms (e ▸ hk), hd.ne⟩, hk.upd hU h.ne, (h.upd.drew).same hU, h.ne, fun q s hs => ?_⟩
  unfold putF at hs
  by_cases ha : q = xn
  · rw [if_pos ha] at hs
    exact (Option.some.inj hs) ▸ cutOver_len hb hw hc
  · rw [if_neg ha] at hs
    exact h.len q s hs
theorem CrsK.put256 {w4 wA : World} {p1 : DkP} {mk sz : Nat} {keep : List Int} {F : Int → Option Bs} (h : CrsK w4 p1 mk sz keep F wA) (xn : Int) {b was : Bs} (hb : b.length = 256) (hw : was.length = 256) :
    ∃ w6, (Instr.mapUpdate 104 (.map (some p1.ms)) (.int .i64 xn) (.string ((⟨b.toArray⟩ : ByteArray).extract 0 256))).run Tryz.prog wA.drew = .ok () w6 ∧ CrsK w4 p1 mk sz keep (putF F xn (some (cutOver b was 256))) w6 := by
  have hd := h.dk.up (Upd.refl Nowhere wA).drew
  have hk := h.kp.upd (Upd.refl Nowhere wA).drew id
  obtain ⟨w6, hrun, hM, hg, _⟩ := hd.syn.store (keyInt .i64) Tryz.underlying104 Tryz.underlying3 xn (.string ((⟨b.toArray⟩ : ByteArray).extract 0 256))
  have hU : Upd (fun k => k = p1.ms) wA.drew w6 := ⟨hg.os, hg.tape, hg.output, hg.size, fun q hq hn => hg.block q hq fun e => hn (Option.some.inj e)⟩
  have e : Value.string ((⟨b.toArray⟩ : ByteArray).extract 0 256) = strV (cutOver b was 256) := by
    rw [ext_take']
    unfold cutOver
    rw [List.drop_eq_nil_of_le (by omega), List.append_nil]
  rw [e, ← encF_put] at hM
  refine ⟨w6, hrun, ⟨hd.blk.upd hU hd.d_ms, hM, hd.now.upd hU (fun e => hd.ne e.symm), hd.pend.upd hU fun k hk e => hd.v_ms (e ▸ hk), hd.ne⟩, hk.upd hU h.ne, (h.upd.drew).same hU, h.ne, fun q s hs => ?_⟩
  unfold putF at hs
  by_cases ha : q = xn
  · rw [if_pos ha] at hs
    exact (Option.some.inj hs) ▸ cutOver_len hb hw (Nat.le_refl _)
  · rw [if_neg ha] at hs
    exact h.len q s hs
theorem crash_step {keep : List Int} {torn : Bool} {cut : Int} {n k : Nat} {l : List (Int × Bs)} {x : Int × Bs} {F : Int → Option Bs} (h : l[k]? = some x) : crashGo keep torn cut n k (l.drop k) F = crashGo keep torn cut n (k + 1) (l.drop (k + 1)) (if cutOf keep torn cut n k = 0 then F else putF F x.1 (some (cutOver x.2 ((F x.1).getD noughtsB) (cutOf keep torn cut n k)))) := by
  obtain ⟨hk, rfl⟩ := List.getElem?_eq_some_iff.1 h
  rw [List.drop_eq_getElem_cons hk, crashGo]
set_option maxRecDepth 100000 in
set_option maxHeartbeats 8000000 in
theorem crash_ok {w : World} {p : DkP} {S : DiskS} (h : DiskAt w p S) {kA : Option Addr} {kc : Nat} {keep : List Int} {kn : Nat} (hkn : keep.length = kn) (hk : Els 1 (fun n : Int => [.int .i64 n]) w (.slice kA kn kc) keep) (hkl : kn ≤ 100000) (torn : Bool) (cut : Int) (hpl : S.pend.length ≤ 100000) (hpd : ∀ x ∈ S.pend, x.2.length = 256) (hsy : ∀ n s, S.syn n = some s → s.length = 256) :
    Calls Tryz.prog 13 #[.pointer (some ⟨p.d, 0, none⟩), .agg #[.slice kA kn kc, .bool torn, .int .i64 cut]] w fun e w' => ∃ p', e = .returned (.pointer (some ⟨p'.d, 0, none⟩)) ∧ DiskAt w' p' (S.crash keep torn cut) ∧ Upd Nowhere w w' ∧ ∀ k, p'.foot k → w.heap.size ≤ k := by
  have hU0 := (Upd.refl Nowhere w).alloc (.cells #[.slice kA kn kc, .bool torn, .int .i64 cut] 41)
  have hB0 := Blk.new w 41 #[.slice kA kn kc, .bool torn, .int .i64 cut]
  have h0 := h.up hU0
  have hk0 := hk.upd hU0 fun _ _ => id
  have hs0 : (w.alloc (.cells #[.slice kA kn kc, .bool torn, .int .i64 cut] 41)).heap.size = w.heap.size + 1 := by simp
  have hlw : p.d < w.heap.size := h.blk.lt
  have hkI : (kn : Int) ≤ 100000 := by omega
  have HKN := Lib.hid hkn
  have HPD := Lib.hid hpd
  have HSY := Lib.hid hsy
  have HPL := Lib.hid hpl
  clear h hk hkl hkn hpd hsy hpl
  go_enter Tryz.func13, Tryz.ntmps13
  go_upto_region 3 with (fail)
  generalize w.alloc (.cells #[.slice kA kn kc, .bool torn, .int .i64 cut] 41) = w1 at *
  have c0 := h0.blk.cell 0
  have c1 := h0.blk.cell 1
  simp only [List.getElem?_toArray, List.getElem?_cons_zero, List.getElem?_cons_succ] at c0 c1
  have hcc : ∀ W, Upd Nowhere w1 W → W.cell? ⟨p.d, 0, none⟩ = some (.int .i64 S.size) ∧ W.cell? ⟨p.d, 1, none⟩ = some (.map (some p.ms)) := fun W hu => ⟨(hu.cell (p := ⟨p.d, 0, none⟩) h0.blk.lt id).trans c0, (hu.cell (p := ⟨p.d, 1, none⟩) h0.blk.lt id).trans c1⟩
  have hcl : ∀ W, Upd Nowhere w1 W → Calls Tryz.prog 53 #[.map (some p.ms)] W fun e w' => e = .returned (.map (some W.heap.size)) ∧ MapIs intK w' W.heap.size (encF S.syn) ∧ Upd Nowhere W w' ∧ w'.heap.size = W.heap.size + 1 := fun W hu => clone_ok (h0.up hu).syn
  have hmm := @run_makeMap Tryz.prog
  have HCL := Lib.hid hcl
  have HCC := Lib.hid hcc
  have H0 := Lib.hid h0
  have HK0 := Lib.hid hk0
  have HB0 := Lib.hid hB0
  have HU0 := Lib.hid hU0
  have HSZ := Lib.hid hs0
  have k0 := hcc _ (Upd.refl _ w1)
  clear h0 hk0 hB0 hU0 hs0 hcl hcc c0 c1
  go_cut [5] (fun s5 wz => ∃ p1 : DkP, s5 = .pointer (some ⟨p1.d, 0, none⟩) ∧ p1.v = .slice none 0 0 ∧ DiskAt wz p1 ⟨S.size, S.syn, fun _ => none, [], -1, false, 0⟩ ∧ Upd Nowhere w1 wz ∧ ∀ k, p1.foot k → w1.heap.size ≤ k)
  case first =>
    go_region_held3 (fun w' => w'.cell? ⟨p.d, 0, none⟩ = some (.int .i64 S.size) ∧ w'.cell? ⟨p.d, 1, none⟩ = some (.map (some p.ms))) (first | with_reducible exact k0 | with_reducible exact k1 | go_keep)
      (first
        | (go_at_call 53
           refine (HCL.out _ (Upd.refl _ w1).drew).mono ?_
           rintro e w2 ⟨rfl, hM2, hU2, hz2⟩
           have k1 := HCC.out _ ((Upd.refl Nowhere w1).drew.same hU2))
        | (go_at_call 53
           refine (HCL.out _ ((Upd.refl _ w1).alloc (.map #[] 0)).drew).mono ?_
           rintro e w2 ⟨rfl, hM2, hU2, hz2⟩
           have k1 := HCC.out _ (((Upd.refl Nowhere w1).alloc (.map #[] 0)).drew.same hU2)))
    · go_wp2_with fail
      go_meet
      have e2 : w2.heap.size = w1.heap.size + 1 := hz2
      have hU2' : Upd Nowhere w1 w2 := (Upd.refl Nowhere w1).drew.same hU2
      refine ⟨⟨w1.heap.size + 1 + 1, w1.heap.size, w1.heap.size + 1, .slice none 0 0⟩, rfl, rfl, ⟨Blk.new' _ _ _ (by simp [e2]), ?_, ?_, OwnR.nil _ _ _ _ _, by simp⟩, (hU2'.alloc _).alloc _, ?_⟩
      · exact (hM2.alloc _).alloc _
      · have := (MapIs.new w2 intK).alloc (.cells #[.int .i64 S.size, .map (some w1.heap.size), .map (some (w1.heap.size + 1)), .slice none 0 0, .int .i64 (-1), .bool false, .int .i64 0] 107)
        rw [e2] at this
        exact this.congr fun _ => rfl
      · rintro k (rfl | rfl | rfl | hk)
        · simp only; omega
        · exact Nat.le_refl _
        · simp only; omega
        · cases hk
    · go_wp2_with fail
      go_meet
      have e1 : (w1.alloc (.map #[] 0)).heap.size = w1.heap.size + 1 := by simp
      have e2 : w2.heap.size = w1.heap.size + 1 + 1 := hz2.trans (congrArg (· + 1) e1)
      have hU2' : Upd Nowhere w1 w2 := ((Upd.refl Nowhere w1).alloc (.map #[] 0)).drew.same hU2
      have hM2' : MapIs intK w2 (w1.heap.size + 1) (encF S.syn) := e1 ▸ hM2
      refine ⟨⟨w1.heap.size + 1 + 1, w1.heap.size + 1, w1.heap.size, .slice none 0 0⟩, rfl, rfl, ⟨Blk.new' _ _ _ (by simp [e2]), ?_, ?_, OwnR.nil _ _ _ _ _, by simp⟩, hU2'.alloc _, ?_⟩
      · exact hM2'.alloc _
      · have := (((MapIs.new w1 intK).upd (Upd.refl Nowhere _).drew id).upd hU2 id).alloc (.cells #[.int .i64 S.size, .map (some (w1.heap.size + 1)), .map (some w1.heap.size), .slice none 0 0, .int .i64 (-1), .bool false, .int .i64 0] 107)
        exact this.congr fun _ => rfl
      · rintro k (rfl | rfl | rfl | hk)
        · simp only; omega
        · simp only; omega
        · exact Nat.le_refl _
        · cases hk
  case rest =>
    obtain ⟨p1, rfl, hpv, hD4, hU4, hF4⟩ := hcut
    have HD4 := Lib.hid hD4
    have HF4 := Lib.hid hF4
    have HPV := Lib.hid hpv
    have HU4 := Lib.hid hU4
    have hB4 := HB0.out.upd hU4 id
    have hbl := hB4.lt
    have b0 := hB4.cell 0
    have b1 := hB4.cell 1
    have b2 := hB4.cell 2
    simp only [List.getElem?_toArray, List.getElem?_cons_zero, List.getElem?_cons_succ] at b0 b1 b2
    clear hpv hD4 hU4 hF4 HCL HCC k0 hB4
    go_wp2_with fail
    go_loopw [32] (fun s32 wr => ∃ k : Nat, s32 = .int .i64 (k : Int) ∧ k ≤ kn ∧ MapIs intK wr wc.heap.size (keptF (keep.take k)) ∧ Upd (fun b => b = wc.heap.size) wc wr) (fun s32 _ => kn - (intOf s32).toNat)
    case atStart => exact ⟨0, rfl, Nat.zero_le _, (MapIs.new wc intK).congr fun _ => rfl, (Upd.refl _ wc).alloc _⟩
    case round =>
      obtain ⟨k, rfl, hk, hM, hU⟩ := hrel
      by_cases hkk : k < kn
      · have hkI : (k : Int) < (kn : Int) := by omega
        have hx : keep[k]? = some (keep[k]'(by rw [HKN.out]; exact hkk)) := List.getElem?_eq_getElem _
        generalize keep[k]'(by rw [HKN.out]; exact hkk) = x at hx
        have hkw := (HK0.out.upd HU4.out fun _ _ => id).newer hU fun b hb (e : b = wc.heap.size) => by omega
        obtain ⟨g, off, cc, hsl, hg, hgc⟩ := hkw.get (cells := fun n : Int => [.int .i64 n]) (fun _ => rfl) hx
        injection hsl with hsl1 hsl2 hsl3
        subst hsl1
        have u0 := hgc 0 (by omega)
        simp only [Nat.mul_one, Nat.add_zero, List.getElem?_cons_zero] at u0
        obtain ⟨w5, hrun5, hM5, hg5, hz5⟩ := hM.store (keyInt .i64) Tryz.underlying109 Tryz.underlying3 x (.bool true)
        have hU5 : Upd (fun b => b = wc.heap.size) wc w5 := hU.same ⟨hg5.os, hg5.tape, hg5.output, hg5.size, fun q hq hn => hg5.block q hq fun e => hn (Option.some.inj e)⟩
        rw [← keptF_snoc hx] at hM5
        have HRUN5 := Lib.hid hrun5
        have HM5 := Lib.hid hM5
        have HU5 := Lib.hid hU5
        have HKK := Lib.hid hkk
        have hkI2 : (k : Int) ≤ 100000 := by omega
        clear hx hkw hgc hsl2 hsl3 hrun5 hM5 hg5 hz5 hU5 hM hU hkk hk hg
        go_wp2_with (first | (at_mapUpdate; refine wpList_update_run rfl _ _ _ _ rfl rfl rfl rfl HRUN5.out ?_))
        go_roundw
        case rel => exact ⟨k + 1, by go_num, HKK.out, HM5.out, HU5.out⟩
        case measure =>
          have := HKK.out
          simp only [intOf]
          omega
      · have hkI : ¬ (k : Int) < (kn : Int) := by omega
        have hke : k = kn := by omega
        subst hke
        rw [List.take_of_length_le (by rw [HKN.out]; exact Nat.le_refl _)] at hM
        have hDp := (H0.out.up HU4.out).upd hU fun b hb (e : b = wc.heap.size) => by have := (H0.out.up HU4.out).lt b hb; omega
        obtain ⟨pA, pc, hpv, hpc⟩ := hDp.pend.cap
        have d3 := hDp.blk.cell 3
        simp only [List.getElem?_toArray, List.getElem?_cons_zero, List.getElem?_cons_succ, hpv] at d3
        have HMK := Lib.hid hM
        have HU := Lib.hid hU
        have HPV2 := Lib.hid hpv
        obtain ⟨n, hn⟩ : ∃ n, S.pend.length = n := ⟨_, rfl⟩
        rw [hn] at d3
        have HN := Lib.hid hn
        have hnI : (n : Int) ≤ 100000 := by have := HPL.out; omega
        clear hM hU hDp hpv hpc hk hn
        have HCR : Hid (CrsK wr p1 wc.heap.size S.size keep S.syn wr) := Lib.hid ⟨(HD4.out).upd HU.out fun b hb (e : b = wc.heap.size) => by have := HD4.out.lt b hb; omega, HMK.out, Upd.refl _ wr, (fun e => by have := HD4.out.lt p1.ms (.inr (.inl rfl)); omega), HSY.out⟩
        have HC0 : Hid (Upd Nowhere w wr) := Lib.hid ((HU0.out.same HU4.out).trans HU.out fun b hb (e : b = wc.heap.size) => by have := HU0.out.size; have := HU4.out.size; omega)
        have HDP : Hid (DiskAt wr p S) := Lib.hid ((H0.out.up HU4.out).upd HU.out fun b hb (e : b = wc.heap.size) => by have := (H0.out.up HU4.out).lt b hb; omega)
        have hB5 := (HB0.out.upd HU4.out id).upd HU.out (by intro (e : w.heap.size = wc.heap.size); have := hbl; omega)
        have hFar : ∀ b, p1.foot b → w.heap.size < b := fun b hb => by have := HF4.out b hb; have := HSZ.out; omega
        have HFAR := Lib.hid hFar
        have HNE : Hid (∀ b, p.foot b → ¬ b = p1.ms) := Lib.hid fun b hb e => by have := H0.out.lt b hb; have := HF4.out p1.ms (.inr (.inl rfl)); omega
        have HB5 := Lib.hid hB5
        have hmk : wc.heap.size < wr.heap.size := HMK.out.lt
        generalize wc.heap.size = mk at *
        clear hB5 hFar b0 b1 b2 HMK HU HU4 HD4 HF4 H0 HK0 HB0 HU0 hbl
        have hcell : ∀ W, Upd (fun b => b = p1.ms) wr W → W.cell? ⟨p.d, 3, none⟩ = some (.slice pA n pc) := fun W hu => (hu.cell (p := ⟨p.d, 3, none⟩) HDP.out.blk.lt (fun (e : p.d = p1.ms) => by have := HFAR.out _ (.inr (.inl rfl)); have := e; omega)).trans d3
        have HCE := Lib.hid hcell
        clear hcell
        go_wp2_with fail
        generalize hwB : wr = wB at *
        clear hwB
        go_loopw [44] (fun s44 wr => ∃ (k : Nat) (F : Int → Option Bs), s44 = .int .i64 (k : Int) ∧ k ≤ n ∧ CrsK wB p1 mk S.size keep F wr ∧ crashGo keep torn cut n k (S.pend.drop k) F = crashGo keep torn cut n 0 S.pend S.syn) (fun s44 _ => n - (intOf s44).toNat)
        case atStart => exact ⟨0, S.syn, rfl, Nat.zero_le _, HCR.out, rfl⟩
        case round =>
          obtain ⟨k, F, rfl, hk, hC, hG⟩ := hrel
          have d3 := HCE.out _ hC.upd
          by_cases hkk : k < n
          · have hkI : (k : Int) < (n : Int) := by omega
            have hkI2 : (k : Int) ≤ 100000 := by omega
            have hx : S.pend[k]? = some (S.pend[k]'(by rw [HN.out]; exact hkk)) := List.getElem?_eq_getElem _
            generalize S.pend[k]'(by rw [HN.out]; exact hkk) = x at hx
            have hDw := HDP.out.upd hC.upd fun b hb e => HNE.out b hb e
            obtain ⟨g, off, cc, hsl, hg, hgc⟩ := hDw.pend.els.get (cells := writeC) (fun _ => rfl) hx
            rw [HPV2.out] at hsl
            injection hsl with hsl1 hsl2 hsl3
            subst hsl1
            have u0 := hgc 0 (by omega)
            have u1 := hgc 1 (by omega)
            obtain ⟨xn, xd⟩ := x
            simp only [writeC, Nat.add_zero, List.getElem?_cons_zero, List.getElem?_cons_succ] at u0 u1
            have hB := HB5.out.upd hC.upd (fun (e : w.heap.size = p1.ms) => by have := HFAR.out _ (.inr (.inl rfl)); have := e; omega)
            have b1 := hB.cell 1
            have b2 := hB.cell 2
            simp only [List.getElem?_toArray, List.getElem?_cons_zero, List.getElem?_cons_succ] at b1 b2
            have hbl := hB.lt
            have hdl := hDw.blk.lt
            have HX := Lib.hid hx
            have HC := Lib.hid hC
            have HG := Lib.hid hG
            have HKK := Lib.hid hkk
            clear hx hC hG hkk hk hgc hDw hB hsl2 hsl3
            obtain ⟨mc, hmc⟩ : ∃ mc, max cut 0 = mc := ⟨_, rfl⟩
            obtain ⟨cc, hcc⟩ : ∃ cc : Nat, min mc 256 = (cc : Int) := ⟨(min mc 256).toNat, by omega⟩
            have hmax : ∀ (ts : Array TypeId) (t : TypeId) (W : World), (Builtin.max_ ts t #[.int .i64 cut, .int .i64 0]).run Tryz.prog W = .ok (.int .i64 mc) W := fun ts t W => by
              have e : (if cut < (0 : Int) then (0 : Int) else cut) = mc := by rw [← hmc]; split <;> omega
              simp [Builtin.max_, Builtin.max2, e]
            have hmin : ∀ (ts : Array TypeId) (t : TypeId) (W : World), (Builtin.min_ ts t #[.int .i64 mc, .int .i64 256]).run Tryz.prog W = .ok (.int .i64 (cc : Int)) W := fun ts t W => by
              have e : (if (256 : Int) < mc then (256 : Int) else mc) = (cc : Int) := by rw [← hcc]; split <;> omega
              simp [Builtin.min_, Builtin.min2, e]
            have hcc2 : cc ≤ 256 := by omega
            have hcut : (min (max cut 0) 256).toNat = cc := by rw [hmc, hcc]; rfl
            have HCUT := Lib.hid hcut
            have HCC2 := Lib.hid hcc2
            clear hmc hcc hcut hcc2
            have hlkk := (HC.out.new (xn, xd)).kp.look (keyInt .i64) Tryz.underlying109 Tryz.underlying3 (z := .bool false) (by kernel_rfl) (k : Int) false
            have hlast : ∀ b, decide (k + 1 = n) = b → ((k : Int) == (n : Int) - 1) = b := fun b h => by
              subst h
              by_cases h1 : k + 1 = n
              · rw [decide_eq_true h1]; exact beq_iff_eq.2 (by omega)
              · rw [decide_eq_false h1]; exact beq_eq_false_iff_ne.2 (by omega)
            cases hT : torn && decide (k + 1 = n) with
            | true =>
              obtain ⟨hT1, hT2⟩ := Bool.and_eq_true_iff.1 hT
              subst hT1
              have hb := hlast _ hT2
              have HCO : Hid (cutOf keep true cut n k = cc) := Lib.hid (by unfold cutOf; rw [if_pos ⟨rfl, of_decide_eq_true hT2⟩]; exact HCUT.out)
              clear hT hlast hlkk hT2
              by_cases hz : cc = 0
              · subst hz
                have HGN : Hid (crashGo keep true cut n (k + 1) (S.pend.drop (k + 1)) F = crashGo keep true cut n 0 S.pend S.syn) := Lib.hid (by
                  have h := HG.out
                  rw [crash_step HX.out, if_pos HCO.out] at h
                  exact h)
                go_wp2_with fail
                go_roundw
                case rel => exact ⟨k + 1, F, by go_num, HKK.out, HC.out.new (xn, xd), HGN.out⟩
                case measure =>
                  have := HKK.out
                  simp only [intOf]
                  omega
              · have hz1 : ((cc : Int) == 0) = false := beq_eq_false_iff_ne.2 (by omega)
                have HNZ := Lib.hid hz
                clear hz
                have hlk := ((HC.out.new (xn, xd)).dk.up (Upd.refl _ _).drew).lookSyn xn
                have e1 := HC.out.dk.blk.cell 1
                have he1 := HC.out.dk.blk.lt
                simp only [List.getElem?_toArray, List.getElem?_cons_zero, List.getElem?_cons_succ] at e1 hlk
                have hxl : xd.length = 256 := HPD.out _ (List.mem_of_getElem? HX.out)
                have hstep : crashGo keep true cut n (k + 1) (S.pend.drop (k + 1)) (putF F xn (some (cutOver xd ((F xn).getD noughtsB) cc))) = crashGo keep true cut n 0 S.pend S.syn := by
                  have h := HG.out
                  rw [crash_step HX.out, if_neg (by rw [HCO.out]; have := HNZ.out; omega), HCO.out] at h
                  exact h
                have hen : encF F xn = (F xn).map strV := rfl
                rw [hen] at hlk
                have HST := Lib.hid hstep
                have HCLE : Hid (cc ≤ 256) := Lib.hid (by have := HCC2.out; omega)
                clear hstep hen
                cases hfx : F xn with
                | some s =>
                  have hsl : s.length = 256 := HC.out.len _ _ hfx
                  have HST := HST
                  rw [hfx] at HST hlk
                  simp only [Option.map_some, Option.getD_some, Option.isSome_some] at hlk HST
                  clear hfx
                  go_upto_region 19 with (fail)
                  go_region
                  all_goals
                    go_wp2_with fail
                    have hCW : CrsK wB p1 mk S.size keep F (wr.alloc (.cells #[.int .i64 xn, strV xd] 111)).drew := ⟨(HC.out.new (xn, xd)).dk.up (Upd.refl _ _).drew, (HC.out.new (xn, xd)).kp.upd (Upd.refl Nowhere _).drew id, (HC.out.new (xn, xd)).upd.drew, HC.out.ne, HC.out.len⟩
                    have hBW : Blk (wr.alloc (.cells #[.int .i64 xn, strV xd] 111)).drew wr.heap.size 111 #[.int .i64 xn, strV xd] := (Blk.new wr _ _).drew
                    have hcc3 : (cc : Int) ≤ 256 := by have := HCC2.out; omega
                    have hxz : (⟨xd.toArray⟩ : ByteArray).size = 256 := hxl
                    have hsz : (⟨s.toArray⟩ : ByteArray).size = 256 := hsl
                    generalize (wr.alloc (.cells #[.int .i64 xn, strV xd] 111)).drew = wA at *
                    have x1 := hCW.dk.blk.cell 1
                    have y0 := hBW.cell 0
                    have y1 := hBW.cell 1
                    simp only [List.getElem?_toArray, List.getElem?_cons_zero, List.getElem?_cons_succ] at x1 y0 y1
                    have z1 := hCW.dk.blk.lt
                    have z2 := hBW.lt
                    obtain ⟨w6, hrun6, hC6⟩ := hCW.put xn hxl hsl HCC2.out
                    have HC6 := Lib.hid hC6
                    clear hCW hBW hC6 hlk
                    go_region
                    all_goals
                      go_wp2_with fail
                      go_roundw
                      case rel => exact ⟨k + 1, _, by go_num, HKK.out, HC6.out, HST.out⟩
                      case measure =>
                        have := HKK.out
                        simp only [intOf]
                        omega
                | none =>
                  rw [hfx] at HST hlk
                  simp only [Option.map_none, Option.getD_none, Option.isSome_none] at hlk HST
                  clear hfx
                  go_upto_region 19 with (fail)
                  go_region
                  all_goals
                    go_wp2_with fail
                    refine (noughts_ok _).mono ?_
                    rintro e w5 ⟨rfl, hU5⟩
                    have hsl : noughtsB.length = 256 := List.length_replicate
                    go_wp2_with fail
                    generalize hnb : noughtsB = nb at *
                    clear hnb
                    have hCW : CrsK wB p1 mk S.size keep F w5 := ⟨((HC.out.new (xn, xd)).dk.up (Upd.refl _ _).drew).up hU5, ((HC.out.new (xn, xd)).kp.upd (Upd.refl Nowhere _).drew id).upd hU5 id, ((HC.out.new (xn, xd)).upd.drew).same hU5.any, HC.out.ne, HC.out.len⟩
                    have hBW : Blk w5 wr.heap.size 111 #[.int .i64 xn, strV xd] := ((Blk.new wr _ _).drew).upd hU5 id
                    have hcc3 : (cc : Int) ≤ 256 := by have := HCC2.out; omega
                    have hxz : (⟨xd.toArray⟩ : ByteArray).size = 256 := hxl
                    have hsz : (⟨nb.toArray⟩ : ByteArray).size = 256 := hsl
                    have x1 := hCW.dk.blk.cell 1
                    have y0 := hBW.cell 0
                    have y1 := hBW.cell 1
                    simp only [List.getElem?_toArray, List.getElem?_cons_zero, List.getElem?_cons_succ] at x1 y0 y1
                    have z1 := hCW.dk.blk.lt
                    have z2 := hBW.lt
                    obtain ⟨w6, hrun6, hC6⟩ := hCW.put xn hxl hsl HCC2.out
                    have HC6 := Lib.hid hC6
                    clear hCW hBW hC6
                    go_region
                    all_goals
                      go_wp2_with fail
                      go_roundw
                      case rel => exact ⟨k + 1, _, by go_num, HKK.out, HC6.out, HST.out⟩
                      case measure =>
                        have := HKK.out
                        simp only [intOf]
                        omega
            | false =>
              cases torn with
              | true =>
                have hT2 : decide (k + 1 = n) = false := by rw [Bool.true_and] at hT; exact hT
                have hb := hlast _ hT2
                have hne := of_decide_eq_false hT2
                by_cases hm : (k : Int) ∈ keep
                · have hkf : keptF keep (k : Int) = some (.bool true) := if_pos hm
                  rw [hkf] at hlkk
                  simp only [Bool.false_eq_true, if_false, Option.getD_some] at hlkk
                  have HCO : Hid (cutOf keep true cut n k = 256) := Lib.hid (by unfold cutOf; rw [if_neg (fun h => hne h.2), if_pos hm])
                  have HNZ : Hid (¬ (256 : Nat) = 0) := Lib.hid (by omega)
                  have HCC2 : Hid ((256 : Nat) ≤ 256) := Lib.hid (Nat.le_refl _)
                  clear hkf hm hmax hmin hlast hT hT2 hne
                  have hlk := ((HC.out.new (xn, xd)).dk.up (Upd.refl _ _).drew).lookSyn xn
                  have e1 := HC.out.dk.blk.cell 1
                  have he1 := HC.out.dk.blk.lt
                  simp only [List.getElem?_toArray, List.getElem?_cons_zero, List.getElem?_cons_succ] at e1 hlk
                  have hxl : xd.length = 256 := HPD.out _ (List.mem_of_getElem? HX.out)
                  have hstep : crashGo keep true cut n (k + 1) (S.pend.drop (k + 1)) (putF F xn (some (cutOver xd ((F xn).getD noughtsB) 256))) = crashGo keep true cut n 0 S.pend S.syn := by
                    have h := HG.out
                    rw [crash_step HX.out, if_neg (by rw [HCO.out]; have := HNZ.out; omega), HCO.out] at h
                    exact h
                  have hen : encF F xn = (F xn).map strV := rfl
                  rw [hen] at hlk
                  have HST := Lib.hid hstep
                  have HCLE : Hid (256 ≤ 256) := Lib.hid (by have := HCC2.out; omega)
                  clear hstep hen
                  cases hfx : F xn with
                  | some s =>
                    have hsl : s.length = 256 := HC.out.len _ _ hfx
                    have HST := HST
                    rw [hfx] at HST hlk
                    simp only [Option.map_some, Option.getD_some, Option.isSome_some] at hlk HST
                    clear hfx
                    go_upto_region 19 with (fail)
                    go_region
                    all_goals
                      go_wp2_with fail
                      have hCW : CrsK wB p1 mk S.size keep F (wr.alloc (.cells #[.int .i64 xn, strV xd] 111)).drew := ⟨(HC.out.new (xn, xd)).dk.up (Upd.refl _ _).drew, (HC.out.new (xn, xd)).kp.upd (Upd.refl Nowhere _).drew id, (HC.out.new (xn, xd)).upd.drew, HC.out.ne, HC.out.len⟩
                      have hBW : Blk (wr.alloc (.cells #[.int .i64 xn, strV xd] 111)).drew wr.heap.size 111 #[.int .i64 xn, strV xd] := (Blk.new wr _ _).drew
                      have hxz : (⟨xd.toArray⟩ : ByteArray).size = 256 := hxl
                      have hsz : (⟨s.toArray⟩ : ByteArray).size = 256 := hsl
                      generalize (wr.alloc (.cells #[.int .i64 xn, strV xd] 111)).drew = wA at *
                      have x1 := hCW.dk.blk.cell 1
                      have y0 := hBW.cell 0
                      have y1 := hBW.cell 1
                      simp only [List.getElem?_toArray, List.getElem?_cons_zero, List.getElem?_cons_succ] at x1 y0 y1
                      have z1 := hCW.dk.blk.lt
                      have z2 := hBW.lt
                      obtain ⟨w6, hrun6, hC6⟩ := hCW.put256 xn hxl hsl
                      have HC6 := Lib.hid hC6
                      clear hCW hBW hC6 hlk
                      go_region
                      all_goals
                        go_wp2_with fail
                        go_roundw
                        case rel => exact ⟨k + 1, _, by go_num, HKK.out, HC6.out, HST.out⟩
                        case measure =>
                          have := HKK.out
                          simp only [intOf]
                          omega
                  | none =>
                    rw [hfx] at HST hlk
                    simp only [Option.map_none, Option.getD_none, Option.isSome_none] at hlk HST
                    clear hfx
                    go_upto_region 19 with (fail)
                    go_region
                    all_goals
                      go_wp2_with fail
                      refine (noughts_ok _).mono ?_
                      rintro e w5 ⟨rfl, hU5⟩
                      have hsl : noughtsB.length = 256 := List.length_replicate
                      go_wp2_with fail
                      generalize hnb : noughtsB = nb at *
                      clear hnb
                      have hCW : CrsK wB p1 mk S.size keep F w5 := ⟨((HC.out.new (xn, xd)).dk.up (Upd.refl _ _).drew).up hU5, ((HC.out.new (xn, xd)).kp.upd (Upd.refl Nowhere _).drew id).upd hU5 id, ((HC.out.new (xn, xd)).upd.drew).same hU5.any, HC.out.ne, HC.out.len⟩
                      have hBW : Blk w5 wr.heap.size 111 #[.int .i64 xn, strV xd] := ((Blk.new wr _ _).drew).upd hU5 id
                      have hxz : (⟨xd.toArray⟩ : ByteArray).size = 256 := hxl
                      have hsz : (⟨nb.toArray⟩ : ByteArray).size = 256 := hsl
                      have x1 := hCW.dk.blk.cell 1
                      have y0 := hBW.cell 0
                      have y1 := hBW.cell 1
                      simp only [List.getElem?_toArray, List.getElem?_cons_zero, List.getElem?_cons_succ] at x1 y0 y1
                      have z1 := hCW.dk.blk.lt
                      have z2 := hBW.lt
                      obtain ⟨w6, hrun6, hC6⟩ := hCW.put256 xn hxl hsl
                      have HC6 := Lib.hid hC6
                      clear hCW hBW hC6
                      go_region
                      all_goals
                        go_wp2_with fail
                        go_roundw
                        case rel => exact ⟨k + 1, _, by go_num, HKK.out, HC6.out, HST.out⟩
                        case measure =>
                          have := HKK.out
                          simp only [intOf]
                          omega
                · have hkf : keptF keep (k : Int) = none := if_neg hm
                  rw [hkf] at hlkk
                  simp only [Bool.false_eq_true, if_false, Option.getD_none] at hlkk
                  have HCO : Hid (cutOf keep true cut n k = 0) := Lib.hid (by unfold cutOf; rw [if_neg (fun h => hne h.2), if_neg hm])
                  clear hkf hm hmax hmin hlast hT hT2 hne
                  have HGN : Hid (crashGo keep true cut n (k + 1) (S.pend.drop (k + 1)) F = crashGo keep true cut n 0 S.pend S.syn) := Lib.hid (by
                    have h := HG.out
                    rw [crash_step HX.out, if_pos HCO.out] at h
                    exact h)
                  go_wp2_with fail
                  go_roundw
                  case rel => exact ⟨k + 1, F, by go_num, HKK.out, HC.out.new (xn, xd), HGN.out⟩
                  case measure =>
                    have := HKK.out
                    simp only [intOf]
                    omega
              | false =>
                by_cases hm : (k : Int) ∈ keep
                · have hkf : keptF keep (k : Int) = some (.bool true) := if_pos hm
                  rw [hkf] at hlkk
                  simp only [Bool.false_eq_true, if_false, Option.getD_some] at hlkk
                  have HCO : Hid (cutOf keep false cut n k = 256) := Lib.hid (by unfold cutOf; rw [if_neg (fun h => by cases h.1), if_pos hm])
                  have HNZ : Hid (¬ (256 : Nat) = 0) := Lib.hid (by omega)
                  have HCC2 : Hid ((256 : Nat) ≤ 256) := Lib.hid (Nat.le_refl _)
                  clear hkf hm hmax hmin hlast hT 
                  have hlk := ((HC.out.new (xn, xd)).dk.up (Upd.refl _ _).drew).lookSyn xn
                  have e1 := HC.out.dk.blk.cell 1
                  have he1 := HC.out.dk.blk.lt
                  simp only [List.getElem?_toArray, List.getElem?_cons_zero, List.getElem?_cons_succ] at e1 hlk
                  have hxl : xd.length = 256 := HPD.out _ (List.mem_of_getElem? HX.out)
                  have hstep : crashGo keep false cut n (k + 1) (S.pend.drop (k + 1)) (putF F xn (some (cutOver xd ((F xn).getD noughtsB) 256))) = crashGo keep false cut n 0 S.pend S.syn := by
                    have h := HG.out
                    rw [crash_step HX.out, if_neg (by rw [HCO.out]; have := HNZ.out; omega), HCO.out] at h
                    exact h
                  have hen : encF F xn = (F xn).map strV := rfl
                  rw [hen] at hlk
                  have HST := Lib.hid hstep
                  have HCLE : Hid (256 ≤ 256) := Lib.hid (by have := HCC2.out; omega)
                  clear hstep hen
                  cases hfx : F xn with
                  | some s =>
                    have hsl : s.length = 256 := HC.out.len _ _ hfx
                    have HST := HST
                    rw [hfx] at HST hlk
                    simp only [Option.map_some, Option.getD_some, Option.isSome_some] at hlk HST
                    clear hfx
                    go_upto_region 19 with (fail)
                    go_region
                    all_goals
                      go_wp2_with fail
                      have hCW : CrsK wB p1 mk S.size keep F (wr.alloc (.cells #[.int .i64 xn, strV xd] 111)).drew := ⟨(HC.out.new (xn, xd)).dk.up (Upd.refl _ _).drew, (HC.out.new (xn, xd)).kp.upd (Upd.refl Nowhere _).drew id, (HC.out.new (xn, xd)).upd.drew, HC.out.ne, HC.out.len⟩
                      have hBW : Blk (wr.alloc (.cells #[.int .i64 xn, strV xd] 111)).drew wr.heap.size 111 #[.int .i64 xn, strV xd] := (Blk.new wr _ _).drew
                      have hxz : (⟨xd.toArray⟩ : ByteArray).size = 256 := hxl
                      have hsz : (⟨s.toArray⟩ : ByteArray).size = 256 := hsl
                      generalize (wr.alloc (.cells #[.int .i64 xn, strV xd] 111)).drew = wA at *
                      have x1 := hCW.dk.blk.cell 1
                      have y0 := hBW.cell 0
                      have y1 := hBW.cell 1
                      simp only [List.getElem?_toArray, List.getElem?_cons_zero, List.getElem?_cons_succ] at x1 y0 y1
                      have z1 := hCW.dk.blk.lt
                      have z2 := hBW.lt
                      obtain ⟨w6, hrun6, hC6⟩ := hCW.put256 xn hxl hsl
                      have HC6 := Lib.hid hC6
                      clear hCW hBW hC6 hlk
                      go_region
                      all_goals
                        go_wp2_with fail
                        go_roundw
                        case rel => exact ⟨k + 1, _, by go_num, HKK.out, HC6.out, HST.out⟩
                        case measure =>
                          have := HKK.out
                          simp only [intOf]
                          omega
                  | none =>
                    rw [hfx] at HST hlk
                    simp only [Option.map_none, Option.getD_none, Option.isSome_none] at hlk HST
                    clear hfx
                    go_upto_region 19 with (fail)
                    go_region
                    all_goals
                      go_wp2_with fail
                      refine (noughts_ok _).mono ?_
                      rintro e w5 ⟨rfl, hU5⟩
                      have hsl : noughtsB.length = 256 := List.length_replicate
                      go_wp2_with fail
                      generalize hnb : noughtsB = nb at *
                      clear hnb
                      have hCW : CrsK wB p1 mk S.size keep F w5 := ⟨((HC.out.new (xn, xd)).dk.up (Upd.refl _ _).drew).up hU5, ((HC.out.new (xn, xd)).kp.upd (Upd.refl Nowhere _).drew id).upd hU5 id, ((HC.out.new (xn, xd)).upd.drew).same hU5.any, HC.out.ne, HC.out.len⟩
                      have hBW : Blk w5 wr.heap.size 111 #[.int .i64 xn, strV xd] := ((Blk.new wr _ _).drew).upd hU5 id
                      have hxz : (⟨xd.toArray⟩ : ByteArray).size = 256 := hxl
                      have hsz : (⟨nb.toArray⟩ : ByteArray).size = 256 := hsl
                      have x1 := hCW.dk.blk.cell 1
                      have y0 := hBW.cell 0
                      have y1 := hBW.cell 1
                      simp only [List.getElem?_toArray, List.getElem?_cons_zero, List.getElem?_cons_succ] at x1 y0 y1
                      have z1 := hCW.dk.blk.lt
                      have z2 := hBW.lt
                      obtain ⟨w6, hrun6, hC6⟩ := hCW.put256 xn hxl hsl
                      have HC6 := Lib.hid hC6
                      clear hCW hBW hC6
                      go_region
                      all_goals
                        go_wp2_with fail
                        go_roundw
                        case rel => exact ⟨k + 1, _, by go_num, HKK.out, HC6.out, HST.out⟩
                        case measure =>
                          have := HKK.out
                          simp only [intOf]
                          omega
                · have hkf : keptF keep (k : Int) = none := if_neg hm
                  rw [hkf] at hlkk
                  simp only [Bool.false_eq_true, if_false, Option.getD_none] at hlkk
                  have HCO : Hid (cutOf keep false cut n k = 0) := Lib.hid (by unfold cutOf; rw [if_neg (fun h => by cases h.1), if_neg hm])
                  clear hkf hm hmax hmin hlast hT 
                  have HGN : Hid (crashGo keep false cut n (k + 1) (S.pend.drop (k + 1)) F = crashGo keep false cut n 0 S.pend S.syn) := Lib.hid (by
                    have h := HG.out
                    rw [crash_step HX.out, if_pos HCO.out] at h
                    exact h)
                  go_wp2_with fail
                  go_roundw
                  case rel => exact ⟨k + 1, F, by go_num, HKK.out, HC.out.new (xn, xd), HGN.out⟩
                  case measure =>
                    have := HKK.out
                    simp only [intOf]
                    omega
          · have hke : k = n := by omega
            subst hke
            have hkI : ¬ (k : Int) < (k : Int) := by omega
            rw [List.drop_of_length_le (by rw [HN.out]; exact Nat.le_refl _)] at hG
            have hend : S.crash keep torn cut = ⟨S.size, F, fun _ => none, [], -1, false, 0⟩ := by
              unfold DiskS.crash
              rw [HN.out, ← hG, crashGo]
            have HEND := Lib.hid hend
            have HC := Lib.hid hC
            clear hend hC hG hk
            go_wp2_with fail
            go_ret
            exact ⟨p1, rfl, by rw [HEND.out]; exact HC.out.dk, HC0.out.trans HC.out.upd (fun q hq (e : q = p1.ms) => by have := HFAR.out _ (.inr (.inl rfl)); omega), fun q hq => by have := HFAR.out q hq; omega⟩
end Go.Proofs.YtdfccegeihfdpaaGreatDoor
