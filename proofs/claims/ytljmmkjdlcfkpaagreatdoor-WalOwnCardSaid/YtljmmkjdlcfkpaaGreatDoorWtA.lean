/-
  trothlaw09.awake, walked over the log's contracts.
-/
import Derived.Test.YtljmmkjdlcfkpaaGreatDoorWsF
import Derived.Test.YtljmmkjdlcfkpaaGreatDoorWm5
import Derived.Test.YtljmmkjdlcfkpaaGreatDoorWm9
namespace Go.Proofs.YtljmmkjdlcfkpaaGreatDoor
open Go Go.RowKit

/-- Forcing keeps the bytes. -/
theorem LogS.force_item (S : LogS) {i : Nat} {b : Bs} {q : Nat} (h : S.items[i]? = some (b, q)) : ∃ q', S.forceS.1.items[i]? = some (b, q') := by
  unfold LogS.forceS
  split
  · exact ⟨q, h⟩
  · dsimp only
    split
    · exact ⟨q, h⟩
    · split
      · exact ⟨q, h⟩
      · rw [placed_get, h]
        simp only [Option.map_some]
        split
        · exact ⟨_, rfl⟩
        · exact ⟨_, rfl⟩
theorem one09_ok (tx : Int) (w : World) : Calls Tryz.prog 11 #[.int .i64 tx] w fun e w' => e = .returned (.agg (oneA tx)) ∧ Upd Nowhere w w' := by
  unfold oneA
  go_enter Tryz.func11, Tryz.ntmps11
  go_wp2_with fail
  refine bodyPost_ret (results_cell_row rfl _ _ w.heap.size 38 (oneA tx) _ _ rfl (Blk.new w 38 (oneA tx)) Tryz.underlying38 rfl (by kernel_rfl)) rfl ?_
  exact ⟨rfl, (Upd.refl Nowhere w).alloc _⟩
theorem dec_to_one {tx : Int} (ht : 1 ≤ tx ∧ tx ≤ 1099511627776) : DecTo (oneP tx).bytes (oneP tx) := fun w v hv => (dec_one ht w v hv).mono fun e w' h => ⟨nilS, h.1, ⟨nilN _ _ _, nilN _ _ _, ⟨[], nilN _ _ _, rfl, fun q hq => by cases hq⟩, nilN _ _ _, ⟨[], nilN _ _ _, rfl, fun q hq => by cases hq⟩, nilN _ _ _⟩, h.2⟩
set_option maxRecDepth 100000 in
set_option maxHeartbeats 8000000 in
theorem awake_walk {w : World} (hW : HalfW w) (hw0 : 0 < w.heap.size) :
    Calls Tryz.prog 8 #[] w fun e w' => e = .returned (.bool true) ∧ Upd Nowhere w w' := by
  have hmade := made_ok (bz := w.heap.size) w 8 (by omega) (by omega) hW hw0 (Nat.le_refl _)
  have HW := Lib.hid hW
  have HMD := Lib.hid hmade
  clear hmade hW hw0
  go_enter Tryz.func8, Tryz.ntmps8
  go_wp2_with fail
  refine HMD.out.mono ?_
  rintro e w1 ⟨l, p, rfl, hL1, hU1, hf1, hl1⟩
  have hF : FullS 8 0 (log0 8) := FullS.start 8
  have hni : (log0 8).items = [] := rfl
  generalize log0 8 = S at *
  have hB := hF.bounds (by omega) (by omega) (by omega)
  have HL1 := Lib.hid hL1
  have HU1 := Lib.hid hU1
  have HF := Lib.hid hF
  have HB := Lib.hid hB
  have hm : S.m.lsn = 1 := by rw [HF.out.mst]; rfl
  have HNI := Lib.hid hni
  have hfi := wfirst_ok hL1 hF.dwn
  rw [hm] at hfi
  have hla : ∀ w', Upd Nowhere w1 w' → Calls Tryz.prog 13 #[.pointer (some ⟨l, 0, none⟩)] w' fun e w'' => e = .returned (.int .i64 0) ∧ Upd Nowhere w' w'' := fun w' hu => by
    have := wlast_ok (HL1.out.up hu) HB.out (by omega) HF.out.dwn
    rw [HF.out.mst, HF.out.len] at this
    exact this
  have hus : ∀ w', Upd Nowhere w1 w' → Calls Tryz.prog 14 #[.pointer (some ⟨l, 0, none⟩)] w' fun e w'' => e = .returned (.int .i64 0) ∧ Upd Nowhere w' w'' := fun w' hu => by
    have := wused_ok (HL1.out.up hu) HB.out (by omega) HF.out.dwn ((HW.out.upd HU1.out id).upd hu id)
    have e0 : (S.sheets S.pendB).length = 0 := by rw [LogS.sheets_len, layAll_fst, HF.out.pend]; rfl
    rw [e0, HF.out.mst, HF.out.nxt] at this
    exact this
  have HFI := Lib.hid hfi
  have HLA := Lib.hid hla
  have HUS := Lib.hid hus
  clear hL1 hU1 hF hB hfi hla hus hf1 hl1 HMD hm hni
  go_wp2_with fail
  refine HFI.out.mono ?_
  rintro e w2 ⟨rfl, hU2⟩
  have HC := Lib.hid (HLA.out w2 hU2)
  have HU2 := Lib.hid hU2
  clear hU2 HFI HLA
  go_wp2_with fail
  refine HC.out.mono ?_
  rintro e w3 ⟨rfl, hU3⟩
  have HU3 := Lib.hid (HU2.out.same hU3)
  have HC := Lib.hid (HUS.out w3 HU3.out)
  clear hU3 HUS HU2
  go_wp2_with fail
  refine HC.out.mono ?_
  rintro e w4 ⟨rfl, hU4⟩
  have HU4 := Lib.hid (HU3.out.same hU4)
  clear hU4 HC HU3
  go_wp2_with fail
  refine (one09_ok 3 w4).mono ?_
  rintro e w5 ⟨rfl, hU5⟩
  have HU5 := Lib.hid (HU4.out.same hU5)
  clear hU5 HU4
  have ht : 1 ≤ (3 : Int) ∧ (3 : Int) ≤ 1099511627776 := by omega
  have hb := oneP_len ht
  have hroom := HF.out.roomy (b := (oneP 3).bytes) (by omega) 0
  have happ := append_ok (HL1.out.up HU5.out) HB.out (by omega) HF.out.dwn ((HW.out.upd HU1.out id).upd HU5.out id) (enc_one ht w5) (by omega) (fun _ => dec_any ht) 0 (by omega)
  rw [oneA_eq] at happ
  obtain ⟨hB3, hp3⟩ := HF.out.added (by omega) (by omega) (by omega) (b := (oneP 3).bytes) (by omega)
  obtain ⟨hz3, hF3⟩ := HF.out.force (by omega) (by omega) (by omega) (b := (oneP 3).bytes) (by omega)
  have hit : (S.add (oneP 3).bytes).items[0]? = some ((oneP 3).bytes, 0) := by simp only [LogS.add]; rw [HNI.out]; rfl
  obtain ⟨q', hit'⟩ := LogS.force_item _ hit
  have hD := dec_to_one ht
  generalize (oneP 3).bytes = bs at *
  have hrt : S.roomy bs 0 = true := hroom.trans rfl
  have HC := Lib.hid happ
  have HRT := Lib.hid hrt
  have HB3 := Lib.hid hB3
  have HZ3 := Lib.hid hz3
  have HF3 := Lib.hid hF3
  have HIT := Lib.hid hit'
  have HD := Lib.hid hD
  clear ht hb hroom happ hB3 hp3 hz3 hF3 hit hit' hD hrt
  go_wp2_with fail
  refine HC.out.mono ?_
  rintro e w6 ⟨_, hno, hyes, hU6⟩
  obtain ⟨he, hL6⟩ := hyes rfl HRT.out
  have he' : e = .returned (.tuple #[.int .i64 1, .int .i64 0]) := by rw [he, HF.out.mst, HF.out.len]; rfl
  subst he'
  have hW6 := ((HW.out.upd HU1.out id).upd HU5.out id).logs HL1.out.hz hU6
  have hN6 : Upd Nowhere w w6 := (HU1.out.same HU5.out).trans hU6 fun k hk e => by have := e.1; omega
  have hfc := force_ok hL6 HB3.out (by omega) HF.out.dwn hW6 (HB3.out.sheets_good (by omega)) (by rw [HB3.out.find_len, placesB_len]) HB3.out.find_le
  have hz := HZ3.out
  have hF3 := HF3.out
  have hit' := HIT.out
  obtain ⟨⟨S', x⟩, hSx⟩ : ∃ t, (S.add bs).forceS = t := ⟨_, rfl⟩
  rw [hSx] at hfc hz hF3 hit'
  simp only at hz hF3 hit'
  subst hz
  have HFC := Lib.hid hfc
  have HF7 := Lib.hid hF3
  have HIT := Lib.hid hit'
  have HW6 := Lib.hid hW6
  have HN6 := Lib.hid hN6
  clear he hno hyes hU6 hL6 hW6 hN6 hfc hF3 hit' hSx HC HZ3 HF3 HB3
  go_wp2_with fail
  refine HFC.out.mono ?_
  rintro e w7 ⟨p4, _, rfl, hL7, hU7⟩
  have hN7 : Upd Nowhere w w7 := HN6.out.trans hU7 fun k hk e => by have := e.1; omega
  have hB7 := HF7.out.bounds (by omega) (by omega) (by omega)
  have hget := wget_ok hL7 hB7 (by omega) HF7.out.dwn HIT.out HD.out (lsn := 1) (by rw [HF7.out.mst]; rfl)
  have hget' : Calls Tryz.prog 18 #[.pointer (some ⟨l, 0, none⟩), .int .i64 1] w7 fun e w' => ∃ v1 v2 v3 v4 v5 v6 : SlT, e = .returned (.tuple #[.agg #[.int .i64 6, .int .i64 3, .int .i64 0, .int .i64 0, strV [], .bool false, strV [], .bool false, strV [], .int .i64 0, slV v1, slV v2, slV v3, slV v4, slV v5, slV v6], .int .i64 0]) ∧ Upd Nowhere w7 w' := hget.mono fun e w' h => by
    obtain ⟨s, he, _, hU⟩ := h
    exact ⟨s.mem, s.loc, s.row, s.dir, s.dee, s.pas, he, hU⟩
  have hus : ∀ w', Upd Nowhere w7 w' → Calls Tryz.prog 14 #[.pointer (some ⟨l, 0, none⟩)] w' fun e w'' => e = .returned (.int .i64 1) ∧ Upd Nowhere w' w'' := fun w' hu => by
    have := wused_ok (hL7.up hu) hB7 (by omega) HF7.out.dwn ((HW6.out.logs HL1.out.hz hU7).upd hu id)
    have e0 : (S'.sheets S'.pendB).length = 0 := by rw [LogS.sheets_len, layAll_fst, HF7.out.pend]; rfl
    rw [e0, HF7.out.mst, HF7.out.nxt] at this
    exact this
  have HGT := Lib.hid hget'
  have HUS := Lib.hid hus
  have HN7 := Lib.hid hN7
  clear hL7 hU7 hN7 hB7 hget hget' hus HFC
  go_wp2_with fail
  refine HGT.out.mono ?_
  rintro e w8 ⟨⟨a1, n1, c1⟩, ⟨a2, n2, c2⟩, ⟨a3, n3, c3⟩, ⟨a4, n4, c4⟩, ⟨a5, n5, c5⟩, ⟨a6, n6, c6⟩, rfl, hU8⟩
  have hc : ∀ cs : Array Value, Calls Tryz.prog 14 #[.pointer (some ⟨l, 0, none⟩)] (w8.alloc (.cells cs 38)) fun e w'' => e = .returned (.int .i64 1) ∧ Upd Nowhere (w8.alloc (.cells cs 38)) w'' := fun cs => HUS.out _ (hU8.alloc _)
  have HC := Lib.hid hc
  have HN8 := Lib.hid (HN7.out.same hU8)
  clear hc hU8 HGT HUS
  simp only [slV]
  go_wp2_with fail
  refine (HC.out _).mono ?_
  rintro e w9 ⟨rfl, hU9⟩
  have HN9 := Lib.hid ((HN8.out.alloc _).same hU9)
  clear hU9 HC
  go_wp2_with fail
  go_ret
  exact ⟨rfl, HN9.out⟩
end Go.Proofs.YtljmmkjdlcfkpaaGreatDoor
