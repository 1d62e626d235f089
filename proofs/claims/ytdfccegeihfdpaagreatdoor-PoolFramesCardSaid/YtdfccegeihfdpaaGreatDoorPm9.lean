/-
  The log and all below it: part 9 of 10 (merged by mergew.py).
-/
import Derived.Test.YtdfccegeihfdpaaGreatDoorPm8
import Derived.Test.YtdfccegeihfdpaaGreatDoorPm4
import Derived.Laws.ResultCell
import Derived.Laws.Rows
/-
  Layer 7: the law's small record in bytes.
-/
namespace Go.Proofs.YtdfccegeihfdpaaGreatDoor
open Go Go.RowKit

set_option maxRecDepth 100000 in
set_option maxHeartbeats 4000000 in
theorem enc_one {tx : Int} (ht : 1 ≤ tx ∧ tx ≤ 1099511627776) (w0 : World) : EncAt w0 ((oneP tx).rv nilS) (oneP tx).bytes 0 := by
  intro w _
  rw [oneA_eq]
  have hlen := oneP_len ht
  have HM := Lib.hid (may_one tx ht.1 ht.2)
  have hby : ∀ w, Calls Tryz.prog 123 #[.agg (oneA tx)] w fun e w' => ∃ A c, e = .returned (.slice A (oneP tx).bytes.length c) ∧ OwnB w.heap.size w' (.slice A (oneP tx).bytes.length c) (oneP tx).bytes ∧ Upd Nowhere w w' := fun w => by
    have := bytes_ok (w := w) (oneP tx) nilS (by simp [oneP, kindP]) (oneP_nil w tx) (oneP_good ht)
    rwa [oneA_eq] at this
  have HBY := Lib.hid hby
  clear hby
  generalize (oneP tx).bytes = bs at *
  have hlI : ((bs.length : Nat) : Int) ≤ 30 := by omega
  have hlN : ¬ 4096 < bs.length := by omega
  have HU0 := Lib.hid ((Upd.refl Nowhere w).alloc (.cells (oneA tx) 39))
  have HB := Lib.hid (Blk.new w 39 (oneA tx))
  unfold oneA at *
  clear ht hlen
  go_enter Tryz.func78, Tryz.ntmps78
  go_wp2_with fail
  refine (HM.out _).mono ?_
  rintro e w2 ⟨rfl, hU1⟩
  have hB1 := HB.out.upd hU1 id
  have b0 := hB1.cell 0
  have b1 := hB1.cell 1
  have b2 := hB1.cell 2
  have b3 := hB1.cell 3
  have b4 := hB1.cell 4
  have b5 := hB1.cell 5
  have b6 := hB1.cell 6
  have b7 := hB1.cell 7
  have b8 := hB1.cell 8
  have b9 := hB1.cell 9
  have b10 := hB1.cell 10
  have b11 := hB1.cell 11
  have b12 := hB1.cell 12
  have b13 := hB1.cell 13
  have b14 := hB1.cell 14
  have b15 := hB1.cell 15
  simp only [List.getElem?_toArray, List.getElem?_cons_zero, List.getElem?_cons_succ] at b0 b1 b2 b3 b4 b5 b6 b7 b8 b9 b10 b11 b12 b13 b14 b15
  have HU1 := Lib.hid (HU0.out.same hU1)
  clear hB1 hU1
  go_wp2_with fail
  refine (HBY.out _).mono ?_
  rintro e w3 ⟨A, c, rfl, hO3, hU3⟩
  have HO3 := Lib.hid hO3
  have HU3 := Lib.hid hU3
  clear hO3 hU3
  go_wp2_with fail
  go_ret2
  exact ⟨A, c, rfl, HO3.out.far fun k hk => Nat.le_trans HU1.out.size (HO3.out.new k hk), HU1.out.same HU3.out⟩
end Go.Proofs.YtdfccegeihfdpaaGreatDoor

/-
  Layer 7: the law's small record out of bytes.
-/
namespace Go.Proofs.YtdfccegeihfdpaaGreatDoor
open Go Go.RowKit

def oneB (tx prev : Int) : Array Value := #[.int .i64 6, .int .i64 tx, .int .i64 prev, .int .i64 0, .string ⟨#[]⟩, .bool false, .string ⟨#[]⟩, .bool false, .string ⟨#[]⟩, .int .i64 0, .slice none 0 0, .slice none 0 0, .slice none 0 0, .slice none 0 0, .slice none 0 0, .slice none 0 0]
set_option maxRecDepth 100000 in
set_option maxHeartbeats 2000000 in
theorem fields6_r {R X : Nat} {rest : Bs} {w : World} {tx prev : Int} (ht : 0 ≤ tx ∧ tx ≤ 1099511627776) (hp : 0 ≤ prev ∧ prev ≤ 1099511627776) (h : RAt w R (numZ tx ++ (numZ prev ++ rest), 0)) (hl : rest.length ≤ 900000) (hb : Blk w X 39 (oneB 0 0)) (hX : X ≠ R) :
    Calls Tryz.prog 128 #[cR R, .pointer (some ⟨X, 0, none⟩)] w (RdP R X 39 rest (oneB tx prev) w) := by
  have hU0 := (Upd.refl Nowhere w).alloc (.cells #[.pointer none, .pointer (some ⟨R, 0, none⟩)] 214)
  have hB := Blk.new w 214 #[.pointer none, .pointer (some ⟨R, 0, none⟩)]
  have hR1 := h.upd hU0 id fun _ e => absurd e id
  have hb1 := hb.upd hU0 id
  have l1 := numZ_len (n := tx) (by omega)
  have l2 := numZ_len (n := prev) (by omega)
  have hbX : X < w.heap.size := hb.lt
  have hRl : R < w.heap.size := h.lt
  have cK := hb1.cell 0
  simp only [oneB, List.getElem?_toArray, List.getElem?_cons_zero] at cK
  have b0 := hB.cell 0
  have b1 := hB.cell 1
  simp only [List.getElem?_toArray, List.getElem?_cons_zero, List.getElem?_cons_succ] at b0 b1
  have HU0 := Lib.hid hU0
  have HB := Lib.hid hB
  have hsz : w.heap.size < (w.alloc (.cells #[.pointer none, .pointer (some ⟨R, 0, none⟩)] 214)).heap.size := hB.lt
  have hv := Blk.new (w.alloc (.cells #[.pointer none, .pointer (some ⟨R, 0, none⟩)] 214)).drew 194 #[.pointer (some ⟨X, 1, none⟩), .pointer (some ⟨X, 2, none⟩)]
  have hu2 := (Upd.refl Nowhere (w.alloc (.cells #[.pointer none, .pointer (some ⟨R, 0, none⟩)] 214))).drew.alloc (.cells #[.pointer (some ⟨X, 1, none⟩), .pointer (some ⟨X, 2, none⟩)] 194)
  have hsd : (w.alloc (.cells #[.pointer none, .pointer (some ⟨R, 0, none⟩)] 214)).drew.heap.size = (w.alloc (.cells #[.pointer none, .pointer (some ⟨R, 0, none⟩)] 214)).heap.size := rfl
  have hnum := nums_r (os := [1, 2]) (ns := [tx, prev]) (rest := rest) (w := (w.alloc (.cells #[.pointer none, .pointer (some ⟨R, 0, none⟩)] 214)).drew.alloc (.cells #[.pointer (some ⟨X, 1, none⟩), .pointer (some ⟨X, 2, none⟩)] 194)) (R := R) (g := X) (t := 39) (cs := oneB 0 0) (vb := (w.alloc (.cells #[.pointer none, .pointer (some ⟨R, 0, none⟩)] 214)).drew.heap.size)
    (by
      have := hR1.upd hu2 id fun _ e => absurd e id
      simpa using this) (by simp only [List.mem_cons, List.not_mem_nil, or_false]; rintro n (rfl | rfl) <;> assumption) (by simp only [List.flatMap_cons, List.flatMap_nil, List.append_nil, List.length_append]; omega) (hb1.upd hu2 id) (by decide) hX (by
      intro o ho
      simp only [List.mem_cons, List.not_mem_nil, or_false] at ho
      rcases ho with rfl | rfl
      · exact ⟨0, rfl⟩
      · exact ⟨0, rfl⟩) rfl (by simp) hv (by omega) (by omega)
  have hsa : setAll (oneB 0 0) [1, 2] [tx, prev] = oneB tx prev := rfl
  rw [hsa] at hnum
  have HN := Lib.hid hnum
  have HU2 := Lib.hid hu2
  have hk : ∀ w2, Upd (RdF R X) ((w.alloc (.cells #[.pointer none, .pointer (some ⟨R, 0, none⟩)] 214)).drew.alloc (.cells #[.pointer (some ⟨X, 1, none⟩), .pointer (some ⟨X, 2, none⟩)] 194)) w2 → w2.cell? ⟨w.heap.size, 0, none⟩ = some (.pointer none) ∧ w2.cell? ⟨w.heap.size, 1, none⟩ = some (.pointer (some ⟨R, 0, none⟩)) := fun w2 hu => by
    have hb2 := (HB.out.upd hu2 id).upd hu (fun e => by rcases e with e | e <;> omega)
    exact ⟨hb2.cell 0, hb2.cell 1⟩
  have HK := Lib.hid hk
  clear ht hp h hl hb hU0 hB hR1 hb1 l1 l2 hbX hRl hv hu2 hsd hnum hsa hk hsz
  unfold cR at *
  go_enter Tryz.func128, Tryz.ntmps128
  go_wp2_with fail
  generalize w.alloc (.cells #[.pointer none, .pointer (some ⟨R, 0, none⟩)] 214) = w1 at *
  go_region_held3 (fun w' => w'.cell? ⟨w.heap.size, 0, none⟩ = some (.pointer none) ∧ w'.cell? ⟨w.heap.size, 1, none⟩ = some (.pointer (some ⟨R, 0, none⟩))) (first | exact ⟨b0, b1⟩ | exact k2 | go_keep)
    (first
      | (go_at_call 182
         refine HN.out.mono ?_
         rintro e w2 ⟨rfl, hR2, hB2, hU2⟩
         have k2 := HK.out _ hU2
         have HR2 := Lib.hid hR2
         have HB2 := Lib.hid hB2
         have HU2' := Lib.hid hU2
         clear hR2 hB2 hU2))
  all_goals
    go_wp2_with fail
    go_end0
    exact ⟨rfl, HR2.out, HB2.out, (HU0.out.any.same HU2.out.any).same HU2'.out⟩
theorem oneB_eq (tx : Int) : oneB tx 0 = oneA tx := rfl
end Go.Proofs.YtdfccegeihfdpaaGreatDoor

/-
  Layer 7: the law's small record out of bytes.
-/
namespace Go.Proofs.YtdfccegeihfdpaaGreatDoor
open Go Go.RowKit

def zeroA : Array Value := #[.int .i64 0, .int .i64 0, .int .i64 0, .int .i64 0, .string ⟨#[]⟩, .bool false, .string ⟨#[]⟩, .bool false, .string ⟨#[]⟩, .int .i64 0, .slice none 0 0, .slice none 0 0, .slice none 0 0, .slice none 0 0, .slice none 0 0, .slice none 0 0]
theorem res_rec2 {fn : Func} {p u : Tmp} (h : fn.results = #[.cell p 39, .tmp u]) {tmps : Array Value} {w : World} {g : Nat} {cs : Array Value} (hp : tmps.getD p undef = .pointer (some ⟨g, 0, none⟩)) (hg : Blk w g 39 cs) (hs : cs.size = 16) :
    (results fn tmps).run Tryz.prog w = .ok (.tuple #[.agg cs, tmps.getD u undef]) w := by
  rw [results_cell_tmp h, hp]
  have e := run_loadVar_row w g 39 39 cs _ _ hg Tryz.underlying39 rfl (by rw [hs]; kernel_rfl)
  simp [asAddr, Result.andThen, e]
theorem zero_sets (tx : Int) : ((((((((((((((((zeroA.setIfInBounds 0 (.int .i64 6)).setIfInBounds 1 (.int .i64 tx)).setIfInBounds 2 (.int .i64 0)).setIfInBounds 3 (.int .i64 0)).setIfInBounds 4 (.string ⟨#[]⟩)).setIfInBounds 5 (.bool false)).setIfInBounds 6 (.string ⟨#[]⟩)).setIfInBounds 7 (.bool false)).setIfInBounds 8 (.string ⟨#[]⟩)).setIfInBounds 9 (.int .i64 0)).setIfInBounds 10 (.slice none 0 0)).setIfInBounds 11 (.slice none 0 0)).setIfInBounds 12 (.slice none 0 0)).setIfInBounds 13 (.slice none 0 0)).setIfInBounds 14 (.slice none 0 0)).setIfInBounds 15 (.slice none 0 0)) = oneA tx := by kernel_rfl
theorem zero_blk {w : World} {g : Nat} (tx : Int) (h : Blk w g 39 zeroA) : Blk ((((((((((((((((w.setCell ⟨g, 0, none⟩ (.int .i64 6)).setCell ⟨g, 1, none⟩ (.int .i64 tx)).setCell ⟨g, 2, none⟩ (.int .i64 0)).setCell ⟨g, 3, none⟩ (.int .i64 0)).setCell ⟨g, 4, none⟩ (.string ⟨#[]⟩)).setCell ⟨g, 5, none⟩ (.bool false)).setCell ⟨g, 6, none⟩ (.string ⟨#[]⟩)).setCell ⟨g, 7, none⟩ (.bool false)).setCell ⟨g, 8, none⟩ (.string ⟨#[]⟩)).setCell ⟨g, 9, none⟩ (.int .i64 0)).setCell ⟨g, 10, none⟩ (.slice none 0 0)).setCell ⟨g, 11, none⟩ (.slice none 0 0)).setCell ⟨g, 12, none⟩ (.slice none 0 0)).setCell ⟨g, 13, none⟩ (.slice none 0 0)).setCell ⟨g, 14, none⟩ (.slice none 0 0)).setCell ⟨g, 15, none⟩ (.slice none 0 0)) g 39 (oneA tx) := by
  have := ((((((((((((((((h.set_ 0 (.int .i64 6)).set_ 1 (.int .i64 tx)).set_ 2 (.int .i64 0)).set_ 3 (.int .i64 0)).set_ 4 (.string ⟨#[]⟩)).set_ 5 (.bool false)).set_ 6 (.string ⟨#[]⟩)).set_ 7 (.bool false)).set_ 8 (.string ⟨#[]⟩)).set_ 9 (.int .i64 0)).set_ 10 (.slice none 0 0)).set_ 11 (.slice none 0 0)).set_ 12 (.slice none 0 0)).set_ 13 (.slice none 0 0)).set_ 14 (.slice none 0 0)).set_ 15 (.slice none 0 0))
  rw [zero_sets] at this
  exact this
set_option maxRecDepth 100000 in
set_option maxHeartbeats 4000000 in
theorem dec_one {tx : Int} (ht : 1 ≤ tx ∧ tx ≤ 1099511627776) (w : World) (v : Value) (hv : BytesE w v (oneP tx).bytes) :
    Calls Tryz.prog 79 #[v] w fun e w' => e = .returned (.tuple #[.agg (oneA tx), .int .i64 0]) ∧ Upd Nowhere w w' := by
  have hlen := oneP_len ht
  have hbs := oneP_bytes tx
  obtain ⟨A0, c0, rfl, _⟩ := hv.val
  have hU0 := (Upd.refl Nowhere w).alloc (.cells zeroA 39)
  have hrd := read_ok (hv.upd hU0 fun _ _ => id) (by omega)
  have hB0 := Blk.new w 39 zeroA
  have hnum : ∀ w' R, RAt w' R ((oneP tx).bytes, 0) → Calls Tryz.prog 125 #[.pointer (some ⟨R, 0, none⟩), .int .i64 1099511627776] w' fun e w'' => e = .returned (.int .i64 6) ∧ RAt w'' R (numZ tx ++ (numZ 0 ++ []), 0) ∧ Upd (fun k => k = R) w' w'' := fun w' R hR => by
    have := rnum_ok hR (by simp only; omega) 1099511627776 (by omega)
    rw [hbs] at this
    have e : numR 1099511627776 (numZ 6 ++ (numZ tx ++ numZ 0), 0) = (6, (numZ tx ++ numZ 0, 0)) := numR_short (n := 6) (by omega) (by omega) _
    rw [e] at this
    rw [List.append_nil]
    exact this
  have hk6 : ∀ w, Calls Tryz.prog 127 #[.int .i64 6] w (BoolP true w) := fun w => by
    have := kind_ok 6 w
    rwa [show kindP 6 = true from by decide] at this
  have hlI : (((oneP tx).bytes.length : Nat) : Int) ≤ 30 := by omega
  have HRD := Lib.hid hrd
  have HNUM := Lib.hid hnum
  have HK6 := Lib.hid hk6
  have HM := Lib.hid (may_one tx ht.1 ht.2)
  have HT := Lib.hid ht
  have HU0 := Lib.hid hU0
  have HB0 := Lib.hid hB0
  generalize (oneP tx).bytes.length = nb at *
  clear hrd hnum hk6 hU0 hB0 hbs hv ht hlen
  unfold zeroA at *
  go_enter Tryz.func79, Tryz.ntmps79
  go_wp2_with fail
  refine HRD.out.mono ?_
  rintro e w2 ⟨R, rfl, hRl, hR2, hU2⟩
  have HC := Lib.hid (HNUM.out w2 R hR2)
  have HU2 := Lib.hid (HU0.out.same hU2)
  have HB2 := Lib.hid (HB0.out.upd hU2 id)
  have HRL := Lib.hid hRl
  clear hR2 hU2 hRl HRD HNUM
  go_wp2_with fail
  refine HC.out.mono ?_
  rintro e w3 ⟨rfl, hR3, hU3⟩
  have HR3 := Lib.hid hR3
  have HU3 := Lib.hid hU3
  clear hR3 hU3 HC
  have hzR : w.heap.size < R := by
    have := HRL.out
    have e : (w.alloc (.cells #[.int .i64 0, .int .i64 0, .int .i64 0, .int .i64 0, .string ⟨#[]⟩, .bool false, .string ⟨#[]⟩, .bool false, .string ⟨#[]⟩, .int .i64 0, .slice none 0 0, .slice none 0 0, .slice none 0 0, .slice none 0 0, .slice none 0 0, .slice none 0 0] 39)).heap.size = w.heap.size + 1 := by simp
    omega
  have hX := HRL.out
  have hz2 := HB2.out.lt
  have hs2 := HU2.out.size
  have hs3 := HU3.out.size
  have hRlt := HR3.out.lt
  have huA := (Upd.refl Nowhere w3).alloc (.cells (oneB 0 0) 39)
  have hBA := Blk.new w3 39 (oneB 0 0)
  have hRA := HR3.out.upd huA id fun _ e => absurd e id
  have HUA := Lib.hid huA
  have HBA := Lib.hid hBA
  have HRA := Lib.hid hRA
  have HE := Lib.hid (rerr_ok hRA)
  have hXR : w3.heap.size ≠ R := by omega
  clear hX huA hBA hRA
  unfold oneB at HUA HBA HRA HE
  go_wp2_with fail
  refine HE.out.mono ?_
  clear HE
  rintro e w4 ⟨rfl, rfl⟩
  have k0 := HBA.out.cell 0
  simp only [List.getElem?_toArray, List.getElem?_cons_zero] at k0
  go_wp2_with fail
  refine (HK6.out _).mono ?_
  rintro e w5 ⟨rfl, hU5⟩
  have hf := fields6_r (tx := tx) (prev := 0) (rest := []) (by have := HT.out; omega) (by omega) (HRA.out.upd hU5 id fun _ e => absurd e id) (by simp) (HBA.out.upd hU5 id) hXR
  have HF := Lib.hid hf
  have HU5 := Lib.hid hU5
  unfold cR at HF
  clear hf hU5 k0
  go_wp2_with fail
  refine HF.out.mono ?_
  rintro e w6 ⟨rfl, hR6, hB6, hU6⟩
  have hend := rend_ok hR6
  have he0 : endR (([] : Bs), 0) = ([], 0) := rfl
  rw [he0] at hend
  have HEND := Lib.hid hend
  have HB6 := Lib.hid hB6
  have HU6 := Lib.hid hU6
  clear hend hR6 hB6 hU6 HF he0
  go_wp2_with fail
  refine HEND.out.mono ?_
  rintro e w7 ⟨rfl, _, hU7⟩
  have hB7 := HB6.out.upd hU7 hXR
  have b0 := hB7.cell 0
  have b1 := hB7.cell 1
  have b2 := hB7.cell 2
  have b3 := hB7.cell 3
  have b4 := hB7.cell 4
  have b5 := hB7.cell 5
  have b6 := hB7.cell 6
  have b7 := hB7.cell 7
  have b8 := hB7.cell 8
  have b9 := hB7.cell 9
  have b10 := hB7.cell 10
  have b11 := hB7.cell 11
  have b12 := hB7.cell 12
  have b13 := hB7.cell 13
  have b14 := hB7.cell 14
  have b15 := hB7.cell 15
  simp only [oneB, List.getElem?_toArray, List.getElem?_cons_zero, List.getElem?_cons_succ] at b0 b1 b2 b3 b4 b5 b6 b7 b8 b9 b10 b11 b12 b13 b14 b15
  have HB7 := Lib.hid hB7
  have HU7 := Lib.hid hU7
  have hM := HM.out w7
  unfold oneA at hM
  have HM7 := Lib.hid hM
  clear hB7 hU7 HEND hM
  go_wp2_with fail
  refine HM7.out.mono ?_
  rintro e w8 ⟨rfl, hU8⟩
  have hB8 := HB7.out.upd hU8 id
  have hUall : Upd (fun k => k = R ∨ k = w3.heap.size) w2 w8 := ((((HU3.out.mono fun k _ e => .inl e).same HUA.out.any).same HU5.out.any).same ((HU6.out.mono fun k _ e => e).same (HU7.out.mono fun k _ e => .inl e))).same hU8.any
  have hZ8 := HB2.out.upd hUall (fun e => by rcases e with e | e <;> omega)
  have hlt8 := hB8.lt
  have hltz := hZ8.lt
  clear b0
  clear b1
  clear b2
  clear b3
  clear b4
  clear b5
  clear b6
  clear b7
  clear b8
  clear b9
  clear b10
  clear b11
  clear b12
  clear b13
  clear b14
  clear b15
  have b0 := hB8.cell 0
  have b1 := hB8.cell 1
  have b2 := hB8.cell 2
  have b3 := hB8.cell 3
  have b4 := hB8.cell 4
  have b5 := hB8.cell 5
  have b6 := hB8.cell 6
  have b7 := hB8.cell 7
  have b8 := hB8.cell 8
  have b9 := hB8.cell 9
  have b10 := hB8.cell 10
  have b11 := hB8.cell 11
  have b12 := hB8.cell 12
  have b13 := hB8.cell 13
  have b14 := hB8.cell 14
  have b15 := hB8.cell 15
  simp only [oneB, List.getElem?_toArray, List.getElem?_cons_zero, List.getElem?_cons_succ] at b0 b1 b2 b3 b4 b5 b6 b7 b8 b9 b10 b11 b12 b13 b14 b15
  have z0 := hZ8.cell 0
  have z1 := hZ8.cell 1
  have z2 := hZ8.cell 2
  have z3 := hZ8.cell 3
  have z4 := hZ8.cell 4
  have z5 := hZ8.cell 5
  have z6 := hZ8.cell 6
  have z7 := hZ8.cell 7
  have z8 := hZ8.cell 8
  have z9 := hZ8.cell 9
  have z10 := hZ8.cell 10
  have z11 := hZ8.cell 11
  have z12 := hZ8.cell 12
  have z13 := hZ8.cell 13
  have z14 := hZ8.cell 14
  have z15 := hZ8.cell 15
  have q0 := hZ8.frozen 0
  have q1 := hZ8.frozen 1
  have q2 := hZ8.frozen 2
  have q3 := hZ8.frozen 3
  have q4 := hZ8.frozen 4
  have q5 := hZ8.frozen 5
  have q6 := hZ8.frozen 6
  have q7 := hZ8.frozen 7
  have q8 := hZ8.frozen 8
  have q9 := hZ8.frozen 9
  have q10 := hZ8.frozen 10
  have q11 := hZ8.frozen 11
  have q12 := hZ8.frozen 12
  have q13 := hZ8.frozen 13
  have q14 := hZ8.frozen 14
  have q15 := hZ8.frozen 15
  simp only [List.getElem?_toArray, List.getElem?_cons_zero, List.getElem?_cons_succ] at z0 z1 z2 z3 z4 z5 z6 z7 z8 z9 z10 z11 z12 z13 z14 z15
  have HZ8 := Lib.hid hZ8
  have HUL := Lib.hid hUall
  clear hB8 hU8 hUall hZ8 HM7
  go_wp2_with fail
  refine bodyPost_ret (res_rec2 (g := w.heap.size) (cs := oneA tx) rfl rfl (zero_blk tx HZ8.out) rfl) rfl ?_
  have hu9 := ((((((((((((((((Upd.refl (fun k => w.heap.size ≤ k) w8).setCell (p := ⟨w.heap.size, 0, none⟩) (fun _ => Nat.le_refl _) (.int .i64 6)).setCell (p := ⟨w.heap.size, 1, none⟩) (fun _ => Nat.le_refl _) (.int .i64 tx)).setCell (p := ⟨w.heap.size, 2, none⟩) (fun _ => Nat.le_refl _) (.int .i64 0)).setCell (p := ⟨w.heap.size, 3, none⟩) (fun _ => Nat.le_refl _) (.int .i64 0)).setCell (p := ⟨w.heap.size, 4, none⟩) (fun _ => Nat.le_refl _) (.string ⟨#[]⟩)).setCell (p := ⟨w.heap.size, 5, none⟩) (fun _ => Nat.le_refl _) (.bool false)).setCell (p := ⟨w.heap.size, 6, none⟩) (fun _ => Nat.le_refl _) (.string ⟨#[]⟩)).setCell (p := ⟨w.heap.size, 7, none⟩) (fun _ => Nat.le_refl _) (.bool false)).setCell (p := ⟨w.heap.size, 8, none⟩) (fun _ => Nat.le_refl _) (.string ⟨#[]⟩)).setCell (p := ⟨w.heap.size, 9, none⟩) (fun _ => Nat.le_refl _) (.int .i64 0)).setCell (p := ⟨w.heap.size, 10, none⟩) (fun _ => Nat.le_refl _) (.slice none 0 0)).setCell (p := ⟨w.heap.size, 11, none⟩) (fun _ => Nat.le_refl _) (.slice none 0 0)).setCell (p := ⟨w.heap.size, 12, none⟩) (fun _ => Nat.le_refl _) (.slice none 0 0)).setCell (p := ⟨w.heap.size, 13, none⟩) (fun _ => Nat.le_refl _) (.slice none 0 0)).setCell (p := ⟨w.heap.size, 14, none⟩) (fun _ => Nat.le_refl _) (.slice none 0 0)).setCell (p := ⟨w.heap.size, 15, none⟩) (fun _ => Nat.le_refl _) (.slice none 0 0)
  have h28 : Upd Nowhere w w8 := HU2.out.trans HUL.out fun k hk e => by rcases e with e | e <;> omega
  exact ⟨rfl, h28.news hu9⟩
theorem dec_any {tx : Int} (ht : 1 ≤ tx ∧ tx ≤ 1099511627776) : DecAny (oneP tx).bytes := fun w v hv => (dec_one ht w v hv).mono fun _ _ h => ⟨(oneP tx).rv nilS, 0, h.1, h.2⟩
end Go.Proofs.YtdfccegeihfdpaaGreatDoor
