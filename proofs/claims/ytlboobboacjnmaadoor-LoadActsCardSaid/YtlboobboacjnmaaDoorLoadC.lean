/-
  A step of a load.
-/
import Derived.Test.YtlboobboacjnmaaDoorLoadG
import Derived.Test.YtlboobboacjnmaaDoorLoadY
import Derived.Lib.ItoaNum
namespace Go.Proofs.YtlboobboacjnmaaDoor
open Go Go.RowKit

/-- A number's digits. -/
def digs (i : Nat) : ByteArray := ⟨(Lib.decDigits i).toArray⟩
theorem itoa_ok (i : Nat) (hi : i < 100) (w : World) : Calls Tryd.prog 19 #[.int .i64 i] w fun e w' => e = .returned (.string (digs i)) ∧ w' = w :=
  Any.strconv_Itoa_small Tryd.lays171 i hi w

theorem digs_size {i : Nat} (hi : i < 100) : (digs i).size ≤ 2 := by
  show (Lib.decDigits i).toArray.size ≤ 2
  by_cases h : i < 10
  · rw [Lib.decDigits_one h]; simp
  · rw [Lib.decDigits_two h hi]; simp

/-- An act that is written into its new block. -/
theorem act_laid {w w1 : World} {bx bs : Nat} {m : MixD} {x x0 : Int} {v : Value} {L L0 : List ActD} {v0 : Value} {z : Array Value} {tx : Int} {key : ByteArray} (hM : MkP w1 bx bs m x v L) (hz : Blk w1 w.heap.size 39 z) (h0 : MkP w bx bs m x0 v0 L0) (hz0 : z = #[.int .i64 0, .int .i64 0, .int .i64 0, .int .u8 0, .int .i64 0, .string ⟨#[]⟩, .bool false, .string ⟨#[]⟩, .slice none 0 0, .bool false, .int .i64 0])
    (hv : v = v0) (hu : Upd (· = bs) w w1) :
    ∃ bz, Value.pointer (some ⟨w.heap.size, 0, none⟩) = .pointer (some ⟨bz, 0, none⟩) ∧
      MkP (((((((((((w1.setCell ⟨w.heap.size, 0, none⟩ (.int .i64 13)).setCell ⟨w.heap.size, 1, none⟩ (.int .i64 0)).setCell ⟨w.heap.size, 2, none⟩ (.int .i64 0)).setCell ⟨w.heap.size, 3, none⟩ (.int .u8 0)).setCell ⟨w.heap.size, 4, none⟩ (.int .i64 tx)).setCell ⟨w.heap.size, 5, none⟩ (.string key)).setCell ⟨w.heap.size, 6, none⟩ (.bool false)).setCell ⟨w.heap.size, 7, none⟩ (.string ⟨#[]⟩)).setCell ⟨w.heap.size, 8, none⟩ (.slice none 0 0)).setCell ⟨w.heap.size, 9, none⟩ (.bool false)).setCell ⟨w.heap.size, 10, none⟩ (.int .i64 0)) bx bs m x v L ∧
      Blk (((((((((((w1.setCell ⟨w.heap.size, 0, none⟩ (.int .i64 13)).setCell ⟨w.heap.size, 1, none⟩ (.int .i64 0)).setCell ⟨w.heap.size, 2, none⟩ (.int .i64 0)).setCell ⟨w.heap.size, 3, none⟩ (.int .u8 0)).setCell ⟨w.heap.size, 4, none⟩ (.int .i64 tx)).setCell ⟨w.heap.size, 5, none⟩ (.string key)).setCell ⟨w.heap.size, 6, none⟩ (.bool false)).setCell ⟨w.heap.size, 7, none⟩ (.string ⟨#[]⟩)).setCell ⟨w.heap.size, 8, none⟩ (.slice none 0 0)).setCell ⟨w.heap.size, 9, none⟩ (.bool false)).setCell ⟨w.heap.size, 10, none⟩ (.int .i64 0)) bz 39 #[.int .i64 13, .int .i64 0, .int .i64 0, .int .u8 0, .int .i64 tx, .string key, .bool false, .string ⟨#[]⟩, .slice none 0 0, .bool false, .int .i64 0] ∧
      Upd (· = bs) w (((((((((((w1.setCell ⟨w.heap.size, 0, none⟩ (.int .i64 13)).setCell ⟨w.heap.size, 1, none⟩ (.int .i64 0)).setCell ⟨w.heap.size, 2, none⟩ (.int .i64 0)).setCell ⟨w.heap.size, 3, none⟩ (.int .u8 0)).setCell ⟨w.heap.size, 4, none⟩ (.int .i64 tx)).setCell ⟨w.heap.size, 5, none⟩ (.string key)).setCell ⟨w.heap.size, 6, none⟩ (.bool false)).setCell ⟨w.heap.size, 7, none⟩ (.string ⟨#[]⟩)).setCell ⟨w.heap.size, 8, none⟩ (.slice none 0 0)).setCell ⟨w.heap.size, 9, none⟩ (.bool false)).setCell ⟨w.heap.size, 10, none⟩ (.int .i64 0)) ∧ w.heap.size ≤ bz := by
  subst hz0 hv
  have hU : Upd (· = w.heap.size) w1 (((((((((((w1.setCell ⟨w.heap.size, 0, none⟩ (.int .i64 13)).setCell ⟨w.heap.size, 1, none⟩ (.int .i64 0)).setCell ⟨w.heap.size, 2, none⟩ (.int .i64 0)).setCell ⟨w.heap.size, 3, none⟩ (.int .u8 0)).setCell ⟨w.heap.size, 4, none⟩ (.int .i64 tx)).setCell ⟨w.heap.size, 5, none⟩ (.string key)).setCell ⟨w.heap.size, 6, none⟩ (.bool false)).setCell ⟨w.heap.size, 7, none⟩ (.string ⟨#[]⟩)).setCell ⟨w.heap.size, 8, none⟩ (.slice none 0 0)).setCell ⟨w.heap.size, 9, none⟩ (.bool false)).setCell ⟨w.heap.size, 10, none⟩ (.int .i64 0)) :=
    (((((((((((Upd.refl (· = w.heap.size) w1).setCell (fun _ => rfl) _).setCell (fun _ => rfl) _).setCell (fun _ => rfl) _).setCell (fun _ => rfl) _).setCell (fun _ => rfl) _).setCell (fun _ => rfl) _).setCell (fun _ => rfl) _).setCell (fun _ => rfl) _).setCell (fun _ => rfl) _).setCell (fun _ => rfl) _).setCell (fun _ => rfl) _
  refine ⟨_, rfl, hM.upd hU fun k hk he => ?_, ?_, hu.trans hU fun k hk he => ?_, Nat.le_refl _⟩
  · have := h0.lt hk; omega
  · have := ((((((((((hz.set_ 0 (.int .i64 13)).set_ 1 (.int .i64 0)).set_ 2 (.int .i64 0)).set_ 3 (.int .u8 0)).set_ 4 (.int .i64 tx)).set_ 5 (.string key)).set_ 6 (.bool false)).set_ 7 (.string ⟨#[]⟩)).set_ 8 (.slice none 0 0)).set_ 9 (.bool false)).set_ 10 (.int .i64 0)
    simpa using this
  · omega

theorem act_new {w w1 : World} {bx bs : Nat} {m : MixD} {x : Int} {v : Value} {L : List ActD} (hM : MkP w1 bx bs m x v L) (hu : Upd (· = bs) w w1) (tx : Int) (key : ByteArray) :
    ∃ bz, Value.pointer (some ⟨w1.heap.size, 0, none⟩) = .pointer (some ⟨bz, 0, none⟩) ∧ MkP (w1.alloc (.cells #[.int .i64 13, .int .i64 0, .int .i64 0, .int .u8 0, .int .i64 tx, .string key, .bool false, .string ⟨#[]⟩, .slice none 0 0, .bool false, .int .i64 0] 39)) bx bs m x v L ∧ Blk (w1.alloc (.cells #[.int .i64 13, .int .i64 0, .int .i64 0, .int .u8 0, .int .i64 tx, .string key, .bool false, .string ⟨#[]⟩, .slice none 0 0, .bool false, .int .i64 0] 39)) bz 39 #[.int .i64 13, .int .i64 0, .int .i64 0, .int .u8 0, .int .i64 tx, .string key, .bool false, .string ⟨#[]⟩, .slice none 0 0, .bool false, .int .i64 0] ∧
      Upd (· = bs) w (w1.alloc (.cells #[.int .i64 13, .int .i64 0, .int .i64 0, .int .u8 0, .int .i64 tx, .string key, .bool false, .string ⟨#[]⟩, .slice none 0 0, .bool false, .int .i64 0] 39)) ∧ w.heap.size ≤ bz :=
  ⟨_, rfl, hM.upd ((Upd.refl Nowhere _).alloc _) fun _ _ => id, Blk.new _ _ _, hu.alloc _, hu.size⟩

/-- The acts of a step, and the seed behind it. -/
def stepAct (m : MixD) (tx : Int) (k : Nat) (x : Int) : ActD :=
  if dr (nx x) 100 < m.writes then { kind := 14, tx := tx, key := ⟨#[107]⟩ ++ digs (dr x m.keys).toNat, has := true, data := ⟨#[118]⟩ ++ digs k } else { kind := 13, tx := tx, key := ⟨#[107]⟩ ++ digs (dr x m.keys).toNat }
def stepDrop (m : MixD) (x : Int) : List ActD := if dr (nx (nx x)) 100 < m.drops then [{ kind := 3 }] else []
def stepFall (m : MixD) (x : Int) : List ActD := if dr (nx (nx (nx x))) 100 < m.falls then [{ kind := 6, n := dr (nx (nx (nx (nx x)))) m.nodes }, { kind := 7, n := dr (nx (nx (nx (nx x)))) m.nodes }] else []
def stepL (m : MixD) (tx : Int) (k : Nat) (x : Int) : List ActD := stepAct m tx k x :: (stepDrop m x ++ stepFall m x)
def stepX (m : MixD) (x : Int) : Int := if dr (nx (nx (nx x))) 100 < m.falls then nx (nx (nx (nx (nx x)))) else nx (nx (nx (nx x)))

set_option maxHeartbeats 4000000 in
set_option maxRecDepth 100000 in
theorem step_ok (bx bs : Nat) (m : MixD) (x : Int) (v : Value) (L : List ActD) (tx : Int) (k : Nat) (w : World) (h : MkP w bx bs m x v L) (hk0 : 0 < m.keys) (hk1 : m.keys ≤ 100) (hn0 : 0 < m.nodes) (hk : k < 100) (hlen : L.length ≤ 50000) :
    Calls Tryd.prog 17 #[.pointer (some ⟨bx, 0, none⟩), .int .i64 tx, .int .i64 k] w fun e w' => e = .returned (.tuple #[]) ∧ Goes w bx bs m v (stepX m x) (L ++ stepL m tx k x) w' := by
  have cb := h.blk.cell
  have lb := h.blk.lt
  have H := Lib.hid h
  obtain ⟨d, hd, hd1⟩ : ∃ d : Nat, dr x m.keys = d ∧ d < 100 := by
    have h0 := dr_nonneg x m.keys
    have h1 := dr_lt x hk0
    exact ⟨(dr x m.keys).toNat, by omega, by omega⟩
  have HO : Hid (∀ W, Upd Nowhere w W → Calls Tryd.prog 10 #[.pointer (some ⟨bs, 0, none⟩), .int .i64 m.keys] W fun e w' => e = .returned (.int .i64 (d : Nat)) ∧ MkP w' bx bs m (nx x) v L ∧ Upd (· = bs) W w') := fun W hW => by
    have hM := h.upd hW fun _ _ => id
    refine (oneOf_ok bs x m.keys W hM.seed hk0).mono ?_
    rintro e w' ⟨rfl, hs, hu⟩
    exact ⟨by rw [hd], hM.draw hs hu, hu⟩
  have hsne : w.heap.size ≠ bs := by have := h.seed.lt; omega
  have HD := Lib.hid hd
  have ds1 := digs_size hd1
  have ds2 := digs_size hk
  have hc1 : ∀ W : World, (Op.stringOp .add ⟨#[107]⟩ (digs d)).run Tryd.prog W = .ok (.string (⟨#[107]⟩ ++ digs d)) W := fun W => run_string_add_sum W _ _ (by have e : (⟨#[107]⟩ : ByteArray).size = 1 := rfl; omega)
  have HNE := Lib.hid hsne
  clear h hd hsne
  go_enter Tryd.func17, Tryd.ntmps17
  go_upto_region 0 with (fail)
  go_cut [6] (fun t wz => ∃ bz, t = .pointer (some ⟨bz, 0, none⟩) ∧ MkP wz bx bs m (nx x) v L ∧ Blk wz bz 39 #[.int .i64 13, .int .i64 0, .int .i64 0, .int .u8 0, .int .i64 tx, .string (⟨#[107]⟩ ++ digs d), .bool false, .string ⟨#[]⟩, .slice none 0 0, .bool false, .int .i64 0] ∧ Upd (· = bs) w wz ∧ w.heap.size ≤ bz)
  case first =>
    go_region_with (first
      | (go_at_call 10; refine (HO.out _ ?_).mono ?_
         first | exact (Upd.refl _ w).drew | exact (Upd.refl _ w).drew.alloc _
         rintro e w1 ⟨rfl, hM, hu⟩
         have HM := Lib.hid hM
         have lb1 := hM.blk.lt
         have HU := Lib.hid hu
         first
           | (have hz := (Blk.new w 39 _).drew.upd hu (fun he => HNE.out he)
              have cz := hz.cell
              have fz := hz.frozen
              have lz := hz.lt
              have HC := Lib.hid (fun key => act_laid (tx := tx) (key := key) hM hz H.out rfl rfl (((Upd.refl _ w).alloc _).drew.trans hu fun _ _ h => h))
              clear hz)
           | have HC := Lib.hid (fun key => act_new hM ((Upd.refl _ w).drew.trans hu fun _ _ h => h) tx key)
         clear hM hu)
      | (go_at_call 19; refine (itoa_ok d hd1 _).mono ?_; rintro e w2 ⟨rfl, rfl⟩))
    all_goals
      go_wp2_with fail
      go_meet
      exact HC.out _
  case rest =>
    obtain ⟨bz, rfl, hM, hZ, hU, hbz⟩ := hcut
    have cb1 := hM.blk.cell
    have hbs : bz ≠ bs := by have := H.out.seed.lt; omega
    have HM := Lib.hid hM
    have HZ := Lib.hid hZ
    have HU := Lib.hid hU
    have HBS := Lib.hid hbs
    clear hM hZ hU hbs cb hc1 HO
    go_wp2_with fail
    refine (often_ok bx bs m (nx x) v L m.writes wc HM.out).mono ?_
    rintro e w2 ⟨rfl, hM, hu⟩
    have hz := HZ.out.upd hu fun he => HBS.out he
    have cz := hz.cell
    have fz := hz.frozen
    have cb2 := hM.blk.cell
    have lb2 := hM.blk.lt
    have lz2 := hz.lt
    have HM2 := Lib.hid hM
    have HZ2 := Lib.hid hz
    have HU2 := Lib.hid (HU.out.trans hu fun _ _ h => h)
    clear hM hu hz HM HZ HU cb1
    have HGz := Lib.hid ((Going.refl w bx bs v).draw HU2.out)
    clear HU2
    by_cases hw : dr (nx x) 100 < m.writes
    · have dw : decide (dr (nx x) 100 < m.writes) = true := by simpa using hw
      rw [dw]
      have hc2 : ∀ W : World, (Op.stringOp .add ⟨#[118]⟩ (digs k)).run Tryd.prog W = .ok (.string (⟨#[118]⟩ ++ digs k)) W := fun W => run_string_add_sum W _ _ (by have e : (⟨#[118]⟩ : ByteArray).size = 1 := rfl; omega)
      go_wp2_with (go_at_call 19; refine (itoa_ok k hk _).mono ?_; rintro e w3 ⟨rfl, rfl⟩)
      have hu3 : Upd (· = bz) w2 (((w2.setCell ⟨bz, 0, none⟩ (.int .i64 14)).setCell ⟨bz, 6, none⟩ (.bool true)).setCell ⟨bz, 7, none⟩ (.string (⟨#[118]⟩ ++ digs k))) := (((Upd.refl (· = bz) w2).setCell (fun _ => rfl) _).setCell (fun _ => rfl) _).setCell (fun _ => rfl) _
      have hM3 := HM2.out.upd hu3 fun kk hkk (he : kk = bz) => by have := H.out.lt hkk; omega
      have HG0 := Lib.hid (HGz.out.beside hu3 fun kk hkk (he : kk = bz) => by omega)
      refine (puts_one' bx bs m _ v L ⟨14, 0, tx, ⟨#[107]⟩ ++ digs d, true, ⟨#[118]⟩ ++ digs k⟩ _ hM3 (by omega) (g := w2.heap.size) (by simp only [World.size_setCell])).mono ?_
      rintro e w3 ⟨rfl, hg⟩
      replace hg := HG0.out.goes hg
      clear HM2 HZ2 HGz HG0 hu3 hM3 cz fz cb2 lz2 hc2
      obtain ⟨v3, hM3, hg3⟩ := hg.open_
      have HM3 := Lib.hid hM3
      have HG3 := Lib.hid hg3
      have cb3 := hM3.blk.cell
      clear hM3 hg3 hg
      go_wp2_with fail
      refine (often_ok bx bs m _ _ _ m.drops w3 HM3.out).mono ?_
      rintro e w4 ⟨rfl, hM4, hu4⟩
      have HM4 := Lib.hid hM4
      have HG4 := Lib.hid (HG3.out.draw hu4)
      have cb4 := hM4.blk.cell
      clear hM4 hu4 HM3 HG3 cb3
      by_cases hdp : dr (nx (nx x)) 100 < m.drops
      · have dd : decide (dr (nx (nx x)) 100 < m.drops) = true := by simpa using hdp
        rw [dd]
        go_wp2_with fail
        refine (puts_one bx bs m _ _ _ ⟨3, 0, 0, ⟨#[]⟩, false, ⟨#[]⟩⟩ w4 HM4.out (by simp; omega)).mono ?_
        rintro e w5 ⟨rfl, hg5⟩
        obtain ⟨v5, hM5, hg5⟩ := (HG4.out.goes hg5).open_
        have HMt := Lib.hid hM5
        have HGt := Lib.hid hg5
        clear hM5 hg5 HM4 HG4 cb4
        have cbt := HMt.out.blk.cell
        go_wp2_with fail
        refine (often_ok bx bs m _ _ _ m.falls _ HMt.out).mono ?_
        rintro e w6 ⟨rfl, hM6, hu6⟩
        have HM6 := Lib.hid hM6
        have cb6 := hM6.blk.cell
        have HG6 := Lib.hid (HGt.out.draw hu6)
        clear hM6 hu6 cbt HMt HGt
        by_cases hf : dr (nx (nx (nx x))) 100 < m.falls
        · have df : decide (dr (nx (nx (nx x))) 100 < m.falls) = true := by simpa using hf
          rw [df]
          go_upto_region 8 with (fail)
          refine wp_region_tail 9 (by kernel_rfl) (by kernel_rfl) ?_
          simp only [List.take_succ_cons, List.take_zero, List.drop_succ_cons, List.drop_zero]
          repeat still_step
          refine wpStill_nil ?_
          go_wp2_with fail
          refine (oneOf_ok bs _ m.nodes _ (HM6.out.upd (Upd.refl Nowhere w6).drew fun _ _ => id).seed hn0).mono ?_
          rintro e w7 ⟨rfl, hs7, hu7⟩
          have HM7 := Lib.hid ((HM6.out.upd (Upd.refl Nowhere w6).drew fun _ _ => id).draw hs7 hu7)
          have HG7 := Lib.hid ((HG6.out.beside (Upd.refl Nowhere w6).drew fun _ _ => id).draw hu7)
          clear hs7 hu7 HM6 HG6 cb6
          go_wp2_with fail
          refine (puts_two bx bs m _ _ _ ⟨6, dr (nx (nx (nx (nx x)))) m.nodes, 0, ⟨#[]⟩, false, ⟨#[]⟩⟩ ⟨7, dr (nx (nx (nx (nx x)))) m.nodes, 0, ⟨#[]⟩, false, ⟨#[]⟩⟩ w7 HM7.out (by simp; omega)).mono ?_
          rintro e w8 ⟨rfl, hg8⟩
          have HE := Lib.hid (HG7.out.goes hg8)
          clear hg8 HM7 HG7
          go_wp2_with fail
          go_end0
          refine ⟨rfl, ?_⟩
          have := HE.out
          simp only [stepX, stepL, stepAct, stepDrop, stepFall, if_pos (id hw), if_pos (id hdp), if_pos (id hf), HD.out, Int.toNat_natCast]
          simpa using this
        · have df : decide (dr (nx (nx (nx x))) 100 < m.falls) = false := by simpa using hf
          rw [df]
          go_wp2_with fail
          go_end0
          refine ⟨rfl, ?_⟩
          have := Goes.of HM6.out HG6.out
          simp only [stepX, stepL, stepAct, stepDrop, stepFall, if_pos (id hw), if_pos (id hdp), if_neg (Int.not_lt.2 hf), HD.out, Int.toNat_natCast]
          simpa using this
      · have dd : decide (dr (nx (nx x)) 100 < m.drops) = false := by simpa using hdp
        rw [dd]
        have HMt := HM4
        have HGt := HG4
        clear HM4 HG4 cb4
        have cbt := HMt.out.blk.cell
        go_wp2_with fail
        refine (often_ok bx bs m _ _ _ m.falls _ HMt.out).mono ?_
        rintro e w6 ⟨rfl, hM6, hu6⟩
        have HM6 := Lib.hid hM6
        have cb6 := hM6.blk.cell
        have HG6 := Lib.hid (HGt.out.draw hu6)
        clear hM6 hu6 cbt HMt HGt
        by_cases hf : dr (nx (nx (nx x))) 100 < m.falls
        · have df : decide (dr (nx (nx (nx x))) 100 < m.falls) = true := by simpa using hf
          rw [df]
          go_upto_region 8 with (fail)
          refine wp_region_tail 9 (by kernel_rfl) (by kernel_rfl) ?_
          simp only [List.take_succ_cons, List.take_zero, List.drop_succ_cons, List.drop_zero]
          repeat still_step
          refine wpStill_nil ?_
          go_wp2_with fail
          refine (oneOf_ok bs _ m.nodes _ (HM6.out.upd (Upd.refl Nowhere w6).drew fun _ _ => id).seed hn0).mono ?_
          rintro e w7 ⟨rfl, hs7, hu7⟩
          have HM7 := Lib.hid ((HM6.out.upd (Upd.refl Nowhere w6).drew fun _ _ => id).draw hs7 hu7)
          have HG7 := Lib.hid ((HG6.out.beside (Upd.refl Nowhere w6).drew fun _ _ => id).draw hu7)
          clear hs7 hu7 HM6 HG6 cb6
          go_wp2_with fail
          refine (puts_two bx bs m _ _ _ ⟨6, dr (nx (nx (nx (nx x)))) m.nodes, 0, ⟨#[]⟩, false, ⟨#[]⟩⟩ ⟨7, dr (nx (nx (nx (nx x)))) m.nodes, 0, ⟨#[]⟩, false, ⟨#[]⟩⟩ w7 HM7.out (by simp; omega)).mono ?_
          rintro e w8 ⟨rfl, hg8⟩
          have HE := Lib.hid (HG7.out.goes hg8)
          clear hg8 HM7 HG7
          go_wp2_with fail
          go_end0
          refine ⟨rfl, ?_⟩
          have := HE.out
          simp only [stepX, stepL, stepAct, stepDrop, stepFall, if_pos (id hw), if_neg (Int.not_lt.2 hdp), if_pos (id hf), HD.out, Int.toNat_natCast]
          simpa using this
        · have df : decide (dr (nx (nx (nx x))) 100 < m.falls) = false := by simpa using hf
          rw [df]
          go_wp2_with fail
          go_end0
          refine ⟨rfl, ?_⟩
          have := Goes.of HM6.out HG6.out
          simp only [stepX, stepL, stepAct, stepDrop, stepFall, if_pos (id hw), if_neg (Int.not_lt.2 hdp), if_neg (Int.not_lt.2 hf), HD.out, Int.toNat_natCast]
          simpa using this
    · have dw : decide (dr (nx x) 100 < m.writes) = false := by simpa using hw
      rw [dw]
      go_wp2_with fail
      refine (puts_one bx bs m _ v L ⟨13, 0, tx, ⟨#[107]⟩ ++ digs d, false, ⟨#[]⟩⟩ w2 HM2.out (by omega)).mono ?_
      rintro e w3 ⟨rfl, hg⟩
      replace hg := HGz.out.goes hg
      clear HM2 HZ2 HGz cz fz cb2 lz2
      obtain ⟨v3, hM3, hg3⟩ := hg.open_
      have HM3 := Lib.hid hM3
      have HG3 := Lib.hid hg3
      have cb3 := hM3.blk.cell
      clear hM3 hg3 hg
      go_wp2_with fail
      refine (often_ok bx bs m _ _ _ m.drops w3 HM3.out).mono ?_
      rintro e w4 ⟨rfl, hM4, hu4⟩
      have HM4 := Lib.hid hM4
      have HG4 := Lib.hid (HG3.out.draw hu4)
      have cb4 := hM4.blk.cell
      clear hM4 hu4 HM3 HG3 cb3
      by_cases hdp : dr (nx (nx x)) 100 < m.drops
      · have dd : decide (dr (nx (nx x)) 100 < m.drops) = true := by simpa using hdp
        rw [dd]
        go_wp2_with fail
        refine (puts_one bx bs m _ _ _ ⟨3, 0, 0, ⟨#[]⟩, false, ⟨#[]⟩⟩ w4 HM4.out (by simp; omega)).mono ?_
        rintro e w5 ⟨rfl, hg5⟩
        obtain ⟨v5, hM5, hg5⟩ := (HG4.out.goes hg5).open_
        have HMt := Lib.hid hM5
        have HGt := Lib.hid hg5
        clear hM5 hg5 HM4 HG4 cb4
        have cbt := HMt.out.blk.cell
        go_wp2_with fail
        refine (often_ok bx bs m _ _ _ m.falls _ HMt.out).mono ?_
        rintro e w6 ⟨rfl, hM6, hu6⟩
        have HM6 := Lib.hid hM6
        have cb6 := hM6.blk.cell
        have HG6 := Lib.hid (HGt.out.draw hu6)
        clear hM6 hu6 cbt HMt HGt
        by_cases hf : dr (nx (nx (nx x))) 100 < m.falls
        · have df : decide (dr (nx (nx (nx x))) 100 < m.falls) = true := by simpa using hf
          rw [df]
          go_upto_region 8 with (fail)
          refine wp_region_tail 9 (by kernel_rfl) (by kernel_rfl) ?_
          simp only [List.take_succ_cons, List.take_zero, List.drop_succ_cons, List.drop_zero]
          repeat still_step
          refine wpStill_nil ?_
          go_wp2_with fail
          refine (oneOf_ok bs _ m.nodes _ (HM6.out.upd (Upd.refl Nowhere w6).drew fun _ _ => id).seed hn0).mono ?_
          rintro e w7 ⟨rfl, hs7, hu7⟩
          have HM7 := Lib.hid ((HM6.out.upd (Upd.refl Nowhere w6).drew fun _ _ => id).draw hs7 hu7)
          have HG7 := Lib.hid ((HG6.out.beside (Upd.refl Nowhere w6).drew fun _ _ => id).draw hu7)
          clear hs7 hu7 HM6 HG6 cb6
          go_wp2_with fail
          refine (puts_two bx bs m _ _ _ ⟨6, dr (nx (nx (nx (nx x)))) m.nodes, 0, ⟨#[]⟩, false, ⟨#[]⟩⟩ ⟨7, dr (nx (nx (nx (nx x)))) m.nodes, 0, ⟨#[]⟩, false, ⟨#[]⟩⟩ w7 HM7.out (by simp; omega)).mono ?_
          rintro e w8 ⟨rfl, hg8⟩
          have HE := Lib.hid (HG7.out.goes hg8)
          clear hg8 HM7 HG7
          go_wp2_with fail
          go_end0
          refine ⟨rfl, ?_⟩
          have := HE.out
          simp only [stepX, stepL, stepAct, stepDrop, stepFall, if_neg (Int.not_lt.2 hw), if_pos (id hdp), if_pos (id hf), HD.out, Int.toNat_natCast]
          simpa using this
        · have df : decide (dr (nx (nx (nx x))) 100 < m.falls) = false := by simpa using hf
          rw [df]
          go_wp2_with fail
          go_end0
          refine ⟨rfl, ?_⟩
          have := Goes.of HM6.out HG6.out
          simp only [stepX, stepL, stepAct, stepDrop, stepFall, if_neg (Int.not_lt.2 hw), if_pos (id hdp), if_neg (Int.not_lt.2 hf), HD.out, Int.toNat_natCast]
          simpa using this
      · have dd : decide (dr (nx (nx x)) 100 < m.drops) = false := by simpa using hdp
        rw [dd]
        have HMt := HM4
        have HGt := HG4
        clear HM4 HG4 cb4
        have cbt := HMt.out.blk.cell
        go_wp2_with fail
        refine (often_ok bx bs m _ _ _ m.falls _ HMt.out).mono ?_
        rintro e w6 ⟨rfl, hM6, hu6⟩
        have HM6 := Lib.hid hM6
        have cb6 := hM6.blk.cell
        have HG6 := Lib.hid (HGt.out.draw hu6)
        clear hM6 hu6 cbt HMt HGt
        by_cases hf : dr (nx (nx (nx x))) 100 < m.falls
        · have df : decide (dr (nx (nx (nx x))) 100 < m.falls) = true := by simpa using hf
          rw [df]
          go_upto_region 8 with (fail)
          refine wp_region_tail 9 (by kernel_rfl) (by kernel_rfl) ?_
          simp only [List.take_succ_cons, List.take_zero, List.drop_succ_cons, List.drop_zero]
          repeat still_step
          refine wpStill_nil ?_
          go_wp2_with fail
          refine (oneOf_ok bs _ m.nodes _ (HM6.out.upd (Upd.refl Nowhere w6).drew fun _ _ => id).seed hn0).mono ?_
          rintro e w7 ⟨rfl, hs7, hu7⟩
          have HM7 := Lib.hid ((HM6.out.upd (Upd.refl Nowhere w6).drew fun _ _ => id).draw hs7 hu7)
          have HG7 := Lib.hid ((HG6.out.beside (Upd.refl Nowhere w6).drew fun _ _ => id).draw hu7)
          clear hs7 hu7 HM6 HG6 cb6
          go_wp2_with fail
          refine (puts_two bx bs m _ _ _ ⟨6, dr (nx (nx (nx (nx x)))) m.nodes, 0, ⟨#[]⟩, false, ⟨#[]⟩⟩ ⟨7, dr (nx (nx (nx (nx x)))) m.nodes, 0, ⟨#[]⟩, false, ⟨#[]⟩⟩ w7 HM7.out (by simp; omega)).mono ?_
          rintro e w8 ⟨rfl, hg8⟩
          have HE := Lib.hid (HG7.out.goes hg8)
          clear hg8 HM7 HG7
          go_wp2_with fail
          go_end0
          refine ⟨rfl, ?_⟩
          have := HE.out
          simp only [stepX, stepL, stepAct, stepDrop, stepFall, if_neg (Int.not_lt.2 hw), if_neg (Int.not_lt.2 hdp), if_pos (id hf), HD.out, Int.toNat_natCast]
          simpa using this
        · have df : decide (dr (nx (nx (nx x))) 100 < m.falls) = false := by simpa using hf
          rw [df]
          go_wp2_with fail
          go_end0
          refine ⟨rfl, ?_⟩
          have := Goes.of HM6.out HG6.out
          simp only [stepX, stepL, stepAct, stepDrop, stepFall, if_neg (Int.not_lt.2 hw), if_neg (Int.not_lt.2 hdp), if_neg (Int.not_lt.2 hf), HD.out, Int.toNat_natCast]
          simpa using this
end Go.Proofs.YtlboobboacjnmaaDoor
