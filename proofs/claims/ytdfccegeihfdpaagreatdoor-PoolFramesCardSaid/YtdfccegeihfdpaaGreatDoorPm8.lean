/-
  The log and all below it: part 8 of 10 (merged by mergew.py).
-/
import Derived.Test.YtdfccegeihfdpaaGreatDoorPm7
import Derived.Laws.Rows
import Derived.Test.YtdfccegeihfdpaaGreatDoorPm6
import Derived.Test.YtdfccegeihfdpaaGreatDoorPm5
import Derived.Deep.RegionHeld3
/-
  Layer 7: a list whose items rise.
-/
namespace Go.Proofs.YtdfccegeihfdpaaGreatDoor
open Go Go.RowKit

/-- A bool was returned, and nothing changed. -/
def BoolP (b : Bool) (w : World) (e : Ending) (w' : World) : Prop := e = .returned (.bool b) ∧ Upd Nowhere w w'
def prevO {α : Type} (L : List α) (k : Nat) : Option α := if k = 0 then none else L[k - 1]?
theorem rises_step {α : Type} (may : α → Bool) (less : α → α → Bool) {L : List α} {k : Nat} {x : α} (hx : L[k]? = some x) :
    risesP may less (prevO L k) (L.drop k) = (may x && (match prevO L k with | none => true | some y => less y x) && risesP may less (prevO L (k + 1)) (L.drop (k + 1))) := by
  obtain ⟨hk, rfl⟩ := List.getElem?_eq_some_iff.1 hx
  have e : prevO L (k + 1) = some L[k] := by simp [prevO]
  rw [List.drop_eq_getElem_cons hk, e]
  simp only [risesP]
  cases prevO L k <;> rfl
def elemI (x : Int) : Value := .int .i64 x
set_option maxRecDepth 100000 in
set_option maxHeartbeats 2000000 in
theorem risingI_ok {w : World} {v : Value} {L : List Int} (hE : Els 1 intC w v L) (hn : L.length ≤ 90000) (most : Nat) (hm : most ≤ 1000) (may : Int → Bool) (less : Int → Int → Bool) (f1 f2 : FuncId)
    (hcf1 : ∀ args w, (callFunc f1 args).run Tryz.prog w = .ok (.enter f1 args) w) (hcf2 : ∀ args w, (callFunc f2 args).run Tryz.prog w = .ok (.enter f2 args) w)
    (hmay : ∀ x ∈ L, ∀ w', Upd Nowhere w w' → Calls Tryz.prog f1 #[elemI x] w' (BoolP (may x) w')) (hless : ∀ x ∈ L, ∀ y ∈ L, ∀ w', Upd Nowhere w w' → Calls Tryz.prog f2 #[elemI x, elemI y] w' (BoolP (less x y) w')) :
    Calls Tryz.prog 233 #[v, .int .i64 (most : Int), .func (.func f1) #[] #[], .func (.func f2) #[] #[]] w (BoolP (risingP most may less L) w) := by
  obtain ⟨A, cc, rfl, hcc⟩ := hE.val
  have hmI : (most : Int) ≤ 1000 := by omega
  have hnI : ((L.length : Nat) : Int) ≤ 90000 := by omega
  obtain ⟨N, hN⟩ : ∃ N, L.length = N := ⟨_, rfl⟩
  have HNN := Lib.hid hN
  by_cases hlm : L.length ≤ most
  · have hR : risingP most may less L = risesP may less (prevO L 0) (L.drop 0) := by unfold risingP; simp [hlm, prevO]
    rw [hR]
    have hlI : ((N : Nat) : Int) ≤ (most : Int) := by omega
    have hlN : ¬ most < N := by omega
    have hlD : decide (most < N) = false := by simpa using hlN
    have HE := Lib.hid hE
    have HMAY := Lib.hid hmay
    have HLESS := Lib.hid hless
    rw [hN] at hnI HE ⊢
    clear hE hmay hless hn hm hcc hN hlm hR
    go_enter Tryz.func233, Tryz.ntmps233
    go_wp2_with fail
    go_loopw [17] (fun s17 wr => ∃ k : Nat, s17 = .int .i64 (k : Int) ∧ k ≤ N ∧ risesP may less (prevO L 0) (L.drop 0) = risesP may less (prevO L k) (L.drop k) ∧ Upd Nowhere w wr) (fun s17 _ => N - (intOf s17).toNat)
    case atStart => exact ⟨0, rfl, by omega, rfl, Upd.refl _ _⟩
    case round =>
      obtain ⟨k, rfl, hk, hr, hu⟩ := hrel
      by_cases hkN : k < N
      · obtain ⟨x, hx⟩ : ∃ x, L[k]? = some x := ⟨_, List.getElem?_eq_getElem (by rw [HNN.out]; exact hkN)⟩
        have hst := rises_step may less hx
        obtain ⟨bb, oo, ccc, he, hbb, hq⟩ := (HE.out.upd hu fun _ _ => id).get (fun _ => rfl) hx
        injection he with he1 he2 he3
        subst he1
        have hm1 := HMAY.out x (List.mem_of_getElem? hx) wr hu
        have a0 := hq 0 (by omega)
        simp only [intC, List.getElem?_cons_zero, Nat.add_zero, Nat.mul_one] at a0
        have HM1 := Lib.hid hm1
        have HST := Lib.hid hst
        have HU := Lib.hid hu
        have HRR := Lib.hid hr
        have hkI : (k : Int) < (N : Int) := by omega
        have HKN := Lib.hid hkN
        have hxm := List.mem_of_getElem? hx
        have HXM := Lib.hid hxm
        unfold elemI at HM1
        rcases k with _ | j
        · simp only [Nat.add_zero] at a0
          clear hk hr hu hx hst he2 he3 hq hm1 hkN hxm hbb
          go_wp2_with fail
          refine HM1.out.mono ?_
          rintro e w2 ⟨rfl, hU2⟩
          cases hb : may x with
          | false =>
            have HB := Lib.hid hb
            have HU2 := Lib.hid (HU.out.same hU2)
            clear hb hU2
            go_wp2_with fail
            go_ret
            refine ⟨?_, HU2.out⟩
            rw [HST.out, HB.out]
            rfl
          | true =>
            have HB := Lib.hid hb
            have HU2 := Lib.hid (HU.out.same hU2)
            clear hb hU2
            go_wp2_with fail
            go_roundw
            case rel => exact ⟨1, by go_num, HKN.out, by rw [HST.out, HB.out]; simp [prevO], HU2.out⟩
            case measure =>
              have := HKN.out
              simp only [intOf]
              omega
        · obtain ⟨y, hy⟩ : ∃ y, L[j]? = some y := ⟨_, List.getElem?_eq_getElem (by rw [HNN.out]; omega)⟩
          obtain ⟨bb', oo', ccc', he', _, hq'⟩ := (HE.out.upd hu fun _ _ => id).get (fun _ => rfl) hy
          injection he' with he1' he2' he3'
          injection he1' with he1'
          injection he1' with e1' e2' _
          subst e1' e2'
          have b0 := hq' 0 (by omega)
          simp only [intC, List.getElem?_cons_zero, Nat.add_zero, Nat.mul_one] at b0
          have hpv : prevO L (j + 1) = some y := by unfold prevO; simpa using hy
          have HPV := Lib.hid hpv
          have HYM := Lib.hid (List.mem_of_getElem? hy)
          have hw1 : IntKind.i64.wrap (((j + 1 : Nat) : Int) - 1) = (j : Int) := by rw [IntWalk.i64_in _ (by omega)]; omega
          have hjI : (j : Int) < (N : Int) := by omega
          have hj0 : (0 : Int) < ((j + 1 : Nat) : Int) := by omega
          obtain ⟨k, hkj⟩ : ∃ k, j + 1 = k := ⟨_, rfl⟩
          have HKJ := Lib.hid hkj
          rw [hkj] at a0  hkI hw1 hj0 HST HRR HKN HPV ⊢
          have hbl := hbb
          clear hk hr hu hx hst he2 he3 hq hm1 hkN hxm hbb hy hq' he2' he3' hpv hkj
          go_wp2_with fail
          refine HM1.out.mono ?_
          rintro e w2 ⟨rfl, hU2⟩
          cases hb : may x with
          | false =>
            have HB := Lib.hid hb
            have HU2 := Lib.hid (HU.out.same hU2)
            clear hb hU2
            go_wp2_with fail
            go_ret
            refine ⟨?_, HU2.out⟩
            rw [HRR.out, HST.out, HB.out]
            rfl
          | true =>
            have HB := Lib.hid hb
            have HU2 := Lib.hid (HU.out.same hU2)
            have b0 := (hU2.cell (p := ⟨bb, oo + j, none⟩) hbl id).trans b0
            have hl2 := HLESS.out y HYM.out x HXM.out w2 (HU.out.same hU2)
            have HL2 := Lib.hid hl2
            unfold elemI at HL2
            clear hb hU2 hl2
            go_wp2_with fail
            refine HL2.out.mono ?_
            rintro e w3 ⟨rfl, hU3⟩
            cases hb3 : less y x with
            | false =>
              have HB3 := Lib.hid hb3
              have HU3 := Lib.hid (HU2.out.same hU3)
              clear hb3 hU3
              go_wp2_with fail
              go_ret
              refine ⟨?_, HU3.out⟩
              rw [HRR.out, HST.out, HB.out, HPV.out]
              simp only [HB3.out]
              rfl
            | true =>
              have HB3 := Lib.hid hb3
              have HU3 := Lib.hid (HU2.out.same hU3)
              clear hb3 hU3
              go_wp2_with fail
              go_roundw
              case rel => exact ⟨k + 1, by go_num, HKN.out, by rw [HRR.out, HST.out, HB.out, HPV.out]; simp [HB3.out], HU3.out⟩
              case measure =>
                have := HKN.out
                simp only [intOf]
                omega
      · obtain rfl : k = N := by omega
        have HU := Lib.hid hu
        have HRR := Lib.hid hr
        clear hu hr hk
        go_wp2_with fail
        go_ret
        refine ⟨?_, HU.out⟩
        rw [HRR.out, List.drop_eq_nil_of_le (by rw [HNN.out]; exact Nat.le_refl _)]
        rfl
  · have hR : risingP most may less L = false := by unfold risingP; simp [hlm]
    rw [hR]
    have hlI : (most : Int) < ((N : Nat) : Int) := by omega
    rw [hN] at hnI ⊢
    clear hE hmay hless hn hm hcc hN hlm hR
    go_enter Tryz.func233, Tryz.ntmps233
    go_wp2_with fail
    go_ret
    exact ⟨rfl, Upd.refl _ _⟩
end Go.Proofs.YtdfccegeihfdpaaGreatDoor

/-
  Layer 7: which records may be.
-/
namespace Go.Proofs.YtdfccegeihfdpaaGreatDoor
open Go Go.RowKit

set_option maxRecDepth 100000 in
set_option maxHeartbeats 2000000 in
theorem seq_ok (n least : Int) (w : World) : Calls Tryz.prog 175 #[.int .i64 n, .int .i64 least] w (BoolP (seqP n least) w) := by
  by_cases h0 : least ≤ n <;> by_cases h1 : n ≤ 1099511627776 <;>
    (go_enter Tryz.func175, Tryz.ntmps175
     go_wp2_with fail
     go_ret
     exact ⟨by simp [seqP, h0, h1], Upd.refl _ _⟩)
set_option maxRecDepth 100000 in
set_option maxHeartbeats 2000000 in
theorem node_ok (n : Int) (w : World) : Calls Tryz.prog 176 #[.int .i64 n] w (BoolP (nodeP n) w) := by
  by_cases h0 : 0 ≤ n <;> by_cases h1 : n < 8 <;>
    (go_enter Tryz.func176, Tryz.ntmps176
     go_wp2_with fail
     go_ret
     exact ⟨by simp [nodeP, h0, h1], Upd.refl _ _⟩)
set_option maxRecDepth 100000 in
set_option maxHeartbeats 2000000 in
theorem kind_ok (n : Int) (w : World) : Calls Tryz.prog 127 #[.int .i64 n] w (BoolP (kindP n) w) := by
  by_cases h0 : 1 ≤ n <;> by_cases h1 : n ≤ 10 <;>
    (go_enter Tryz.func127, Tryz.ntmps127
     go_wp2_with fail
     go_ret
     exact ⟨by simp [kindP, h0, h1], Upd.refl _ _⟩)
set_option maxRecDepth 100000 in
set_option maxHeartbeats 2000000 in
theorem lower_ok (a b : Int) (w : World) : Calls Tryz.prog 235 #[.int .i64 a, .int .i64 b] w (BoolP (ltP a b) w) := by
  by_cases h0 : a < b <;>
    (go_enter Tryz.func235, Tryz.ntmps235
     go_wp2_with fail
     go_ret
     exact ⟨by simp [ltP, h0], Upd.refl _ _⟩)
set_option maxRecDepth 100000 in
set_option maxHeartbeats 2000000 in
theorem reckey_ok (s : Bs) (hs : s.length ≤ 1000000) (w : World) : Calls Tryz.prog 173 #[strV s] w (BoolP (keyP s) w) := by
  have hl : ((s.length : Nat) : Int) ≤ 1000000 := by omega
  by_cases h0 : s = []
  · subst h0
    go_enter Tryz.func173, Tryz.ntmps173
    go_wp2_with fail
    go_ret
    exact ⟨by simp [keyP], Upd.refl _ _⟩
  · have hb : (s == []) = false := by
      rw [beq_eq_false_iff_ne]
      exact h0
    by_cases h1 : s.length ≤ 16
    · have h2 : ((s.length : Nat) : Int) ≤ 16 := by omega
      go_enter Tryz.func173, Tryz.ntmps173
      go_wp2_with fail
      go_ret
      exact ⟨by simp [keyP, h0, h1], Upd.refl _ _⟩
    · have h2 : (16 : Int) < ((s.length : Nat) : Int) := by omega
      go_enter Tryz.func173, Tryz.ntmps173
      go_wp2_with fail
      go_ret
      exact ⟨by simp [keyP, h0, h1, h2], Upd.refl _ _⟩
set_option maxRecDepth 100000 in
set_option maxHeartbeats 2000000 in
theorem recvalue_ok (h : Bool) (d : Bs) (hd : d.length ≤ 1000000) (w : World) : Calls Tryz.prog 174 #[.agg #[.bool h, strV d]] w (BoolP (valueP h d) w) := by
  have hl : ((d.length : Nat) : Int) ≤ 1000000 := by omega
  have hu := (Upd.refl Nowhere w).alloc (.cells #[.bool h, strV d] 32)
  have HU := Lib.hid hu
  clear hu
  by_cases h1 : d.length ≤ 32
  · have h2 : ((d.length : Nat) : Int) ≤ 32 := by omega
    cases h with
    | true =>
      go_enter Tryz.func174, Tryz.ntmps174
      go_wp2_with fail
      go_ret
      exact ⟨by simp [valueP, h1], HU.out⟩
    | false =>
      by_cases h0 : d = []
      · subst h0
        go_enter Tryz.func174, Tryz.ntmps174
        go_wp2_with fail
        go_ret
        exact ⟨by simp [valueP], HU.out⟩
      · have hb : (d == []) = false := by
          rw [beq_eq_false_iff_ne]
          exact h0
        go_enter Tryz.func174, Tryz.ntmps174
        go_wp2_with fail
        go_ret
        exact ⟨by simp [valueP, h0, h1], HU.out⟩
  · have h2 : (32 : Int) < ((d.length : Nat) : Int) := by omega
    go_enter Tryz.func174, Tryz.ntmps174
    go_wp2_with fail
    go_ret
    exact ⟨by simp [valueP, h1], HU.out⟩
theorem cf_node (args : Array Value) (w : World) : (callFunc 176 args).run Tryz.prog w = .ok (.enter 176 args) w := by kernel_rfl
theorem cf_lower (args : Array Value) (w : World) : (callFunc 235 args).run Tryz.prog w = .ok (.enter 235 args) w := by kernel_rfl
theorem cf_check6 (args : Array Value) (w : World) : (callFunc 234 args).run Tryz.prog w = .ok (.enter 234 args) w := by kernel_rfl
set_option maxRecDepth 100000 in
set_option maxHeartbeats 2000000 in
theorem members_ok {w : World} {v : Value} {L : List Int} (hE : Els 1 intC w v L) (hn : L.length ≤ 90000) : Calls Tryz.prog 177 #[v] w (BoolP (membersP L) w) := by
  have hc := risingI_ok hE hn 8 (by omega) nodeP ltP _ _ cf_node cf_lower (fun x _ w' _ => node_ok x w') (fun x _ y _ w' _ => lower_ok x y w')
  have HC := Lib.hid hc
  have HU := Lib.hid (Upd.refl Nowhere w)
  clear hc
  go_enter Tryz.func177, Tryz.ntmps177
  go_wp2_with fail
  refine HC.out.mono ?_
  rintro e w2 ⟨rfl, hU2⟩
  have HU2 := Lib.hid (HU.out.same hU2)
  clear hU2
  go_wp2_with fail
  go_ret
  exact ⟨rfl, HU2.out⟩
end Go.Proofs.YtdfccegeihfdpaaGreatDoor

/-
  Layer 7: the law's small record may be.
-/
namespace Go.Proofs.YtdfccegeihfdpaaGreatDoor
open Go Go.RowKit

def oneP (tx : Int) : RecP := ⟨6, tx, 0, 0, [], false, [], false, [], 0, [], [], [], [], [], []⟩
def nilS : Sls := ⟨(none, 0, 0), (none, 0, 0), (none, 0, 0), (none, 0, 0), (none, 0, 0), (none, 0, 0)⟩
theorem oneP_nil (w : World) (tx : Int) : RecE w (oneP tx) nilS :=
  ⟨(OwnR.nil 3 intC 1 0 w).els, (OwnR.nil 170 lockC 2 0 w).els, ⟨[], (OwnR.nil 172 RowW.cells 8 0 w).els, rfl, fun q hq => by cases hq⟩, (OwnR.nil 168 dirC 2 0 w).els, ⟨[], (OwnR.nil 174 DeedV.cells 2 0 w).els, rfl, fun q hq => by cases hq⟩, (OwnR.nil 3 intC 1 0 w).els⟩
theorem oneP_bytes (tx : Int) : (oneP tx).bytes = numZ 6 ++ (numZ tx ++ numZ 0) := by simp [oneP, RecP.bytes, RecP.fieldsB]
theorem oneP_good {tx : Int} (h : 1 ≤ tx ∧ tx ≤ 1099511627776) : (oneP tx).good := by
  refine ⟨⟨by simp [oneP], by simp [oneP]⟩, ⟨by simp only [oneP]; omega, by simp only [oneP]; omega⟩, ⟨by simp [oneP], by simp [oneP]⟩, ⟨by simp [oneP], by simp [oneP]⟩, ⟨by simp [oneP], by simp [oneP]⟩, by simp [oneP], by simp [oneP], by simp [oneP], by simp [oneP], by simp [oneP], by simp [oneP], by simp [oneP], by simp [oneP], by simp [oneP], by simp [oneP], by simp [oneP], by simp [oneP], by simp [oneP], by simp [oneP], by simp [oneP], ?_⟩
  rw [oneP_bytes, List.length_append, List.length_append]
  have h1 := numZ_len (n := 6) (by omega)
  have h2 := numZ_len (n := tx) (by omega)
  have h3 := numZ_len (n := 0) (by omega)
  omega
theorem oneP_len {tx : Int} (h : 1 ≤ tx ∧ tx ≤ 1099511627776) : (oneP tx).bytes.length ≤ 30 := by
  rw [oneP_bytes, List.length_append, List.length_append]
  have h1 := numZ_len (n := 6) (by omega)
  have h2 := numZ_len (n := tx) (by omega)
  have h3 := numZ_len (n := 0) (by omega)
  omega
set_option maxRecDepth 100000 in
set_option maxHeartbeats 2000000 in
theorem locks_nil (w : World) : Calls Tryz.prog 178 #[.slice none 0 0] w (BoolP true w) := by
  have hr : Calls Tryz.prog 236 #[.slice none 0 0, .int .i64 64, .func (.func 237) #[] #[], .func (.func 238) #[] #[]] w (BoolP true w) := by
    go_enter Tryz.func236, Tryz.ntmps236
    go_wp2_with fail
    go_loopw [17] (fun s17 wr => s17 = .int .i64 0 ∧ wr = w) (fun _ _ => 1)
    case atStart => exact ⟨rfl, rfl⟩
    case round =>
      obtain ⟨rfl, rfl⟩ := hrel
      go_wp2_with fail
      go_ret
      exact ⟨rfl, Upd.refl _ _⟩
  have HR := Lib.hid hr
  clear hr
  go_enter Tryz.func178, Tryz.ntmps178
  go_wp2_with fail
  refine HR.out.mono ?_
  rintro e w2 ⟨rfl, hU2⟩
  have HU2 := Lib.hid hU2
  clear hU2
  go_wp2_with fail
  go_ret
  exact ⟨rfl, HU2.out⟩
set_option maxRecDepth 100000 in
set_option maxHeartbeats 2000000 in
theorem members_nil (w : World) : Calls Tryz.prog 177 #[.slice none 0 0] w (BoolP true w) := by
  have hr : Calls Tryz.prog 233 #[.slice none 0 0, .int .i64 8, .func (.func 176) #[] #[], .func (.func 235) #[] #[]] w (BoolP true w) := by
    go_enter Tryz.func233, Tryz.ntmps233
    go_wp2_with fail
    go_loopw [17] (fun s17 wr => s17 = .int .i64 0 ∧ wr = w) (fun _ _ => 1)
    case atStart => exact ⟨rfl, rfl⟩
    case round =>
      obtain ⟨rfl, rfl⟩ := hrel
      go_wp2_with fail
      go_ret
      exact ⟨rfl, Upd.refl _ _⟩
  have HR := Lib.hid hr
  clear hr
  go_enter Tryz.func177, Tryz.ntmps177
  go_wp2_with fail
  refine HR.out.mono ?_
  rintro e w2 ⟨rfl, hU2⟩
  have HU2 := Lib.hid hU2
  clear hU2
  go_wp2_with fail
  go_ret
  exact ⟨rfl, HU2.out⟩
def oneA (tx : Int) : Array Value := #[.int .i64 6, .int .i64 tx, .int .i64 0, .int .i64 0, .string ⟨#[]⟩, .bool false, .string ⟨#[]⟩, .bool false, .string ⟨#[]⟩, .int .i64 0, .slice none 0 0, .slice none 0 0, .slice none 0 0, .slice none 0 0, .slice none 0 0, .slice none 0 0]
theorem oneA_eq (tx : Int) : ((oneP tx).rv nilS).cells.toArray = oneA tx := rfl
set_option maxRecDepth 100000 in
set_option maxHeartbeats 4000000 in
theorem wants_six (w : World) : Calls Tryz.prog 223 #[.int .i64 6] w fun e w' => e = .returned (.agg #[.bool false, .bool true, .bool true, .bool true, .bool true, .bool true, .bool true, .bool true, .bool true]) ∧ Upd Nowhere w w' := by
  go_enter Tryz.func223, Tryz.ntmps223
  go_wp2_with fail
  refine bodyPost_ret (results_cell_row rfl _ _ w.heap.size 308 #[.bool false, .bool true, .bool true, .bool true, .bool true, .bool true, .bool true, .bool true, .bool true] _ _ rfl ((Blk.new w 308 #[.bool false, .bool true, .bool true, .bool true, .bool true, .bool true, .bool true, .bool true, .bool true]).alloc _) Tryz.underlying308 rfl (by kernel_rfl)) rfl ?_
  exact ⟨rfl, ((Upd.refl Nowhere w).alloc _).alloc _⟩
set_option maxRecDepth 100000 in
set_option maxHeartbeats 4000000 in
theorem spare_one (tx : Int) (w : World) : Calls Tryz.prog 171 #[.agg (oneA tx)] w (BoolP false w) := by
  have HW6 := Lib.hid wants_six
  have HU0 := Lib.hid ((Upd.refl Nowhere w).alloc (.cells (oneA tx) 39))
  have HB := Lib.hid (Blk.new w 39 (oneA tx))
  unfold oneA at *
  go_enter Tryz.func171, Tryz.ntmps171
  go_wp2_with fail
  refine (HW6.out _).mono ?_
  rintro e w2 ⟨rfl, hU1⟩
  have hB1 := HB.out.upd hU1 id
  have HU1 := Lib.hid (HU0.out.same hU1)
  have b2 := hB1.cell 2
  have b3 := hB1.cell 3
  have b4 := hB1.cell 4
  have b5 := hB1.cell 5
  have b6 := hB1.cell 6
  have b7 := hB1.cell 7
  have b8 := hB1.cell 8
  have b9 := hB1.cell 9
  have b10 := hB1.cell 10
  have b11 := hB1.cell 11
  have b12 := hB1.cell 12
  have b13 := hB1.cell 13
  have b14 := hB1.cell 14
  have b15 := hB1.cell 15
  have hlt := hB1.lt
  simp only [List.getElem?_toArray, List.getElem?_cons_zero, List.getElem?_cons_succ] at b2 b3 b4 b5 b6 b7 b8 b9 b10 b11 b12 b13 b14 b15
  clear hB1 hU1
  go_wp2_with fail
  go_ret
  exact ⟨rfl, (HU1.out.alloc _).alloc _⟩
set_option maxRecDepth 100000 in
set_option maxHeartbeats 4000000 in
theorem may_one (tx : Int) (h1 : 1 ≤ tx) (h2 : tx ≤ 1099511627776) (w : World) : Calls Tryz.prog 122 #[.agg (oneA tx)] w (BoolP true w) := by
  have HC0 : Hid (∀ w, Calls Tryz.prog 127 #[.int .i64 6] w (BoolP true w)) := Lib.hid fun w => by
    have := kind_ok 6 w
    rwa [show kindP 6 = true from by decide] at this
  have HC1 := Lib.hid (spare_one tx)
  have HC2 : Hid (∀ w, Calls Tryz.prog 175 #[.int .i64 tx, .int .i64 1] w (BoolP true w)) := Lib.hid fun w => by
    have := seq_ok tx 1 w
    rwa [show seqP tx 1 = true from by simp [seqP, h1, h2]] at this
  have HC3 : Hid (∀ w, Calls Tryz.prog 175 #[.int .i64 0, .int .i64 0] w (BoolP true w)) := Lib.hid fun w => by
    have := seq_ok 0 0 w
    rwa [show seqP 0 0 = true from by decide] at this
  have HC4 : Hid (∀ w, Calls Tryz.prog 176 #[.int .i64 0] w (BoolP true w)) := Lib.hid fun w => by
    have := node_ok 0 w
    rwa [show nodeP 0 = true from by decide] at this
  have HC5 := Lib.hid members_nil
  have HC6 := Lib.hid locks_nil
  have hb0 := (Upd.refl Nowhere w).alloc (.cells (oneA tx) 39)
  have HU0 := Lib.hid hb0
  have HB := Lib.hid (Blk.new w 39 (oneA tx))
  clear hb0
  unfold oneA at *
  go_enter Tryz.func122, Tryz.ntmps122
  go_wp2_with fail
  refine (HC0.out _).mono ?_
  rintro e w2 ⟨rfl, hU1⟩
  have hB1 := HB.out.upd hU1 id
  have b0 := hB1.cell 0
  have b1 := hB1.cell 1
  have b2 := hB1.cell 2
  have b3 := hB1.cell 3
  have b4 := hB1.cell 4
  have b5 := hB1.cell 5
  have b6 := hB1.cell 6
  have b7 := hB1.cell 7
  have b8 := hB1.cell 8
  have b9 := hB1.cell 9
  have b10 := hB1.cell 10
  have b11 := hB1.cell 11
  have b12 := hB1.cell 12
  have b13 := hB1.cell 13
  have b14 := hB1.cell 14
  have b15 := hB1.cell 15
  simp only [List.getElem?_toArray, List.getElem?_cons_zero, List.getElem?_cons_succ] at b0 b1 b2 b3 b4 b5 b6 b7 b8 b9 b10 b11 b12 b13 b14 b15
  have HB1 := Lib.hid hB1
  have HU1 := Lib.hid (HU0.out.same hU1)
  clear hB1 hU1
  go_wp2_with fail
  refine (HC1.out _).mono ?_
  rintro e w3 ⟨rfl, hU2⟩
  have hB2 := HB1.out.upd hU2 id
  have b0 := hB2.cell 0
  have b1 := hB2.cell 1
  have b2 := hB2.cell 2
  have b3 := hB2.cell 3
  have b4 := hB2.cell 4
  have b5 := hB2.cell 5
  have b6 := hB2.cell 6
  have b7 := hB2.cell 7
  have b8 := hB2.cell 8
  have b9 := hB2.cell 9
  have b10 := hB2.cell 10
  have b11 := hB2.cell 11
  have b12 := hB2.cell 12
  have b13 := hB2.cell 13
  have b14 := hB2.cell 14
  have b15 := hB2.cell 15
  simp only [List.getElem?_toArray, List.getElem?_cons_zero, List.getElem?_cons_succ] at b0 b1 b2 b3 b4 b5 b6 b7 b8 b9 b10 b11 b12 b13 b14 b15
  have HB2 := Lib.hid hB2
  have HU2 := Lib.hid (HU1.out.same hU2)
  clear hB2 hU2
  go_wp2_with fail
  refine (HC2.out _).mono ?_
  rintro e w4 ⟨rfl, hU3⟩
  have hB3 := HB2.out.upd hU3 id
  have b0 := hB3.cell 0
  have b1 := hB3.cell 1
  have b2 := hB3.cell 2
  have b3 := hB3.cell 3
  have b4 := hB3.cell 4
  have b5 := hB3.cell 5
  have b6 := hB3.cell 6
  have b7 := hB3.cell 7
  have b8 := hB3.cell 8
  have b9 := hB3.cell 9
  have b10 := hB3.cell 10
  have b11 := hB3.cell 11
  have b12 := hB3.cell 12
  have b13 := hB3.cell 13
  have b14 := hB3.cell 14
  have b15 := hB3.cell 15
  simp only [List.getElem?_toArray, List.getElem?_cons_zero, List.getElem?_cons_succ] at b0 b1 b2 b3 b4 b5 b6 b7 b8 b9 b10 b11 b12 b13 b14 b15
  have HB3 := Lib.hid hB3
  have HU3 := Lib.hid (HU2.out.same hU3)
  clear hB3 hU3
  go_wp2_with fail
  refine (HC3.out _).mono ?_
  rintro e w5 ⟨rfl, hU4⟩
  have hB4 := HB3.out.upd hU4 id
  have b0 := hB4.cell 0
  have b1 := hB4.cell 1
  have b2 := hB4.cell 2
  have b3 := hB4.cell 3
  have b4 := hB4.cell 4
  have b5 := hB4.cell 5
  have b6 := hB4.cell 6
  have b7 := hB4.cell 7
  have b8 := hB4.cell 8
  have b9 := hB4.cell 9
  have b10 := hB4.cell 10
  have b11 := hB4.cell 11
  have b12 := hB4.cell 12
  have b13 := hB4.cell 13
  have b14 := hB4.cell 14
  have b15 := hB4.cell 15
  simp only [List.getElem?_toArray, List.getElem?_cons_zero, List.getElem?_cons_succ] at b0 b1 b2 b3 b4 b5 b6 b7 b8 b9 b10 b11 b12 b13 b14 b15
  have HB4 := Lib.hid hB4
  have HU4 := Lib.hid (HU3.out.same hU4)
  clear hB4 hU4
  go_wp2_with fail
  refine (HC3.out _).mono ?_
  rintro e w6 ⟨rfl, hU5⟩
  have hB5 := HB4.out.upd hU5 id
  have b0 := hB5.cell 0
  have b1 := hB5.cell 1
  have b2 := hB5.cell 2
  have b3 := hB5.cell 3
  have b4 := hB5.cell 4
  have b5 := hB5.cell 5
  have b6 := hB5.cell 6
  have b7 := hB5.cell 7
  have b8 := hB5.cell 8
  have b9 := hB5.cell 9
  have b10 := hB5.cell 10
  have b11 := hB5.cell 11
  have b12 := hB5.cell 12
  have b13 := hB5.cell 13
  have b14 := hB5.cell 14
  have b15 := hB5.cell 15
  simp only [List.getElem?_toArray, List.getElem?_cons_zero, List.getElem?_cons_succ] at b0 b1 b2 b3 b4 b5 b6 b7 b8 b9 b10 b11 b12 b13 b14 b15
  have HB5 := Lib.hid hB5
  have HU5 := Lib.hid (HU4.out.same hU5)
  clear hB5 hU5
  go_wp2_with fail
  refine (HC4.out _).mono ?_
  rintro e w7 ⟨rfl, hU6⟩
  have hB6 := HB5.out.upd hU6 id
  have b0 := hB6.cell 0
  have b1 := hB6.cell 1
  have b2 := hB6.cell 2
  have b3 := hB6.cell 3
  have b4 := hB6.cell 4
  have b5 := hB6.cell 5
  have b6 := hB6.cell 6
  have b7 := hB6.cell 7
  have b8 := hB6.cell 8
  have b9 := hB6.cell 9
  have b10 := hB6.cell 10
  have b11 := hB6.cell 11
  have b12 := hB6.cell 12
  have b13 := hB6.cell 13
  have b14 := hB6.cell 14
  have b15 := hB6.cell 15
  simp only [List.getElem?_toArray, List.getElem?_cons_zero, List.getElem?_cons_succ] at b0 b1 b2 b3 b4 b5 b6 b7 b8 b9 b10 b11 b12 b13 b14 b15
  have HB6 := Lib.hid hB6
  have HU6 := Lib.hid (HU5.out.same hU6)
  clear hB6 hU6
  go_wp2_with fail
  refine (HC5.out _).mono ?_
  rintro e w8 ⟨rfl, hU7⟩
  have hB7 := HB6.out.upd hU7 id
  have b0 := hB7.cell 0
  have b1 := hB7.cell 1
  have b2 := hB7.cell 2
  have b3 := hB7.cell 3
  have b4 := hB7.cell 4
  have b5 := hB7.cell 5
  have b6 := hB7.cell 6
  have b7 := hB7.cell 7
  have b8 := hB7.cell 8
  have b9 := hB7.cell 9
  have b10 := hB7.cell 10
  have b11 := hB7.cell 11
  have b12 := hB7.cell 12
  have b13 := hB7.cell 13
  have b14 := hB7.cell 14
  have b15 := hB7.cell 15
  simp only [List.getElem?_toArray, List.getElem?_cons_zero, List.getElem?_cons_succ] at b0 b1 b2 b3 b4 b5 b6 b7 b8 b9 b10 b11 b12 b13 b14 b15
  have HB7 := Lib.hid hB7
  have HU7 := Lib.hid (HU6.out.same hU7)
  clear hB7 hU7
  go_wp2_with fail
  refine (HC6.out _).mono ?_
  rintro e w9 ⟨rfl, hU8⟩
  have hB8 := HB7.out.upd hU8 id
  have b0 := hB8.cell 0
  have b1 := hB8.cell 1
  have b2 := hB8.cell 2
  have b3 := hB8.cell 3
  have b4 := hB8.cell 4
  have b5 := hB8.cell 5
  have b6 := hB8.cell 6
  have b7 := hB8.cell 7
  have b8 := hB8.cell 8
  have b9 := hB8.cell 9
  have b10 := hB8.cell 10
  have b11 := hB8.cell 11
  have b12 := hB8.cell 12
  have b13 := hB8.cell 13
  have b14 := hB8.cell 14
  have b15 := hB8.cell 15
  simp only [List.getElem?_toArray, List.getElem?_cons_zero, List.getElem?_cons_succ] at b0 b1 b2 b3 b4 b5 b6 b7 b8 b9 b10 b11 b12 b13 b14 b15
  have HB8 := Lib.hid hB8
  have HU8 := Lib.hid (HU7.out.same hU8)
  clear hB8 hU8
  go_wp2_with fail
  go_ret
  exact ⟨rfl, HU8.out⟩
end Go.Proofs.YtdfccegeihfdpaaGreatDoor

/-
  Layer 7: a coder that reads: a number; numbers of one block.
-/
namespace Go.Proofs.YtdfccegeihfdpaaGreatDoor
open Go Go.RowKit

/-- What a reader and a block may be changed by. -/
def RdF (R g : Nat) (k : Nat) : Prop := k = R ∨ k = g
def RdP (R g t : Nat) (rest : Bs) (cs : Array Value) (w : World) (e : Ending) (w' : World) : Prop := e = .returned (.tuple #[]) ∧ RAt w' R (rest, 0) ∧ Blk w' g t cs ∧ Upd (RdF R g) w w'
set_option maxRecDepth 100000 in
set_option maxHeartbeats 1000000 in
theorem cnum_r {R g t off : Nat} {n : Int} {rest : Bs} {w : World} {cs : Array Value} (h : RAt w R (numZ n ++ rest, 0)) (hn : 0 ≤ n ∧ n ≤ 1099511627776) (hl : (numZ n ++ rest).length ≤ 1000000) (hb : Blk w g t cs) (ht : t ≠ 5) (hg : g ≠ R) {n0 : Int} (hc : cs[off]? = some (.int .i64 n0)) :
    Calls Tryz.prog 193 #[cR R, .pointer (some ⟨g, off, none⟩)] w (RdP R g t rest (cs.setIfInBounds off (.int .i64 n)) w) := by
  have hU0 := (Upd.refl Nowhere w).alloc (.cells #[.pointer none, .pointer (some ⟨R, 0, none⟩)] 214)
  have hR1 := h.upd hU0 id fun _ e => absurd e id
  have hb1 := hb.upd hU0 id
  have hnum := rnum_ok hR1 hl 1099511627776 (by omega)
  have hrd : numR 1099511627776 (numZ n ++ rest, 0) = (n.toNat, (rest, 0)) := numR_short (by omega) (by omega) rest
  rw [hrd] at hnum
  obtain ⟨m, rfl⟩ := Int.eq_ofNat_of_zero_le hn.1
  have HU0 := Lib.hid hU0
  have HB1 := Lib.hid hb1
  have HC := Lib.hid hc
  clear h hn hl hb hc hU0 hR1 hb1 hrd
  unfold cR
  go_enter Tryz.func193, Tryz.ntmps193
  go_wp2_with fail
  refine hnum.mono ?_
  clear hnum
  rintro e w2 ⟨rfl, hR2, hU2⟩
  have hb2 := HB1.out.upd hU2 hg
  have c2 := hb2.cell off
  rw [HC.out] at c2
  have f2 := hb2.frozen off
  have HB2 := Lib.hid hb2
  have HR2 := Lib.hid hR2
  have HU2 := Lib.hid hU2
  clear hb2 hR2 hU2
  simp only [Int.toNat_natCast]
  go_wp2_with fail
  go_end0
  have hu3 := Upd.one w2 g off (.int .i64 (m : Nat))
  refine ⟨rfl, HR2.out.upd hu3 (fun e => hg e.symm) (noU8_blk HB2.out ht), HB2.out.set_ off _, ?_⟩
  exact (HU0.out.any.same (HU2.out.mono fun k _ e => .inl e)).same (hu3.mono fun k _ e => .inr e)
theorem RdP.upd {R g t : Nat} {rest : Bs} {cs : Array Value} {w0 w : World} {e : Ending} {w' : World} (hu : Upd (RdF R g) w0 w) (h : RdP R g t rest cs w e w') : RdP R g t rest cs w0 e w' := ⟨h.1, h.2.1, h.2.2.1, hu.same h.2.2.2⟩
/-- Several cells set. -/
def setAll : Array Value → List Nat → List Int → Array Value
  | cs, o :: os, n :: ns => setAll (cs.setIfInBounds o (.int .i64 n)) os ns
  | cs, _, _ => cs
def allInts (cs : Array Value) (os : List Nat) : Prop := ∀ o ∈ os, ∃ n0 : Int, cs[o]? = some (.int .i64 n0)
theorem allInts.set {cs : Array Value} {os : List Nat} (h : allInts cs os) (o : Nat) (n : Int) : allInts (cs.setIfInBounds o (.int .i64 n)) os := fun x hx => by
  obtain ⟨n0, h0⟩ := h x hx
  rw [Array.getElem?_setIfInBounds]
  by_cases hxo : o = x
  · subst hxo
    have hlt : o < cs.size := (Array.getElem?_eq_some_iff.1 h0).1
    exact ⟨n, by simp [hlt]⟩
  · exact ⟨n0, by rw [if_neg hxo]; exact h0⟩
theorem setAll_take : ∀ (os : List Nat) (ns : List Int) (cs : Array Value) (k : Nat) (o : Nat) (n : Int), os[k]? = some o → ns[k]? = some n → setAll cs (os.take (k + 1)) (ns.take (k + 1)) = (setAll cs (os.take k) (ns.take k)).setIfInBounds o (.int .i64 n) := by
  intro os
  induction os with
  | nil => intro ns cs k o n h; simp at h
  | cons a os ih =>
    intro ns cs k o n h1 h2
    cases ns with
    | nil => simp at h2
    | cons b ns =>
      cases k with
      | zero =>
        simp only [List.getElem?_cons_zero, Option.some.injEq] at h1 h2
        subst h1 h2
        simp [setAll]
      | succ k =>
        simp only [List.getElem?_cons_succ] at h1 h2
        rw [List.take_succ_cons, List.take_succ_cons, List.take_succ_cons, List.take_succ_cons, setAll, setAll, ih ns _ k o n h1 h2]
theorem allInts.setAll {cs : Array Value} {os : List Nat} (h : allInts cs os) : ∀ (os' : List Nat) (ns : List Int), allInts (setAll cs os' ns) os := by
  intro os'
  induction os' generalizing cs with
  | nil => intro ns; exact h
  | cons a os' ih =>
    intro ns
    cases ns with
    | nil => exact h
    | cons n ns => exact ih (h.set a n) ns
set_option maxRecDepth 100000 in
set_option maxHeartbeats 1000000 in
theorem nums_r {R g t vb : Nat} {rest : Bs} {w : World} {cs : Array Value} {os : List Nat} {ns : List Int} (h : RAt w R (ns.flatMap numZ ++ rest, 0)) (hn : ∀ n ∈ ns, 0 ≤ n ∧ n ≤ 1099511627776) (hl : (ns.flatMap numZ ++ rest).length ≤ 1000000) (hb : Blk w g t cs) (ht : t ≠ 5) (hg : g ≠ R) (hc : allInts cs os) (hlen : os.length = ns.length) (h10 : os.length ≤ 10)
    (hv : Blk w vb 194 (os.map fun o => (Value.pointer (some ⟨g, o, none⟩))).toArray) (hvR : vb ≠ R) (hvg : vb ≠ g) :
    Calls Tryz.prog 182 #[cR R, .slice (some ⟨vb, 0, none⟩) os.length os.length] w (RdP R g t rest (setAll cs os ns) w) := by
  have hU0 := (Upd.refl Nowhere w).alloc (.cells #[.pointer none, .pointer (some ⟨R, 0, none⟩)] 214)
  have hB := Blk.new w 214 #[.pointer none, .pointer (some ⟨R, 0, none⟩)]
  have hR1 := h.upd hU0 id fun _ e => absurd e id
  have hb1 := hb.upd hU0 id
  have hv1 := hv.upd hU0 id
  have hbR : w.heap.size ≠ R := by have := h.lt; omega
  have hbg : w.heap.size ≠ g := by have := hb.lt; omega
  have HU0 := Lib.hid hU0
  have HB := Lib.hid hB
  have HR1 := Lib.hid hR1
  have HB1 := Lib.hid hb1
  have HV1 := Lib.hid hv1
  have HN := Lib.hid hn
  have HL := Lib.hid hl
  have HC := Lib.hid hc
  have HLEN := Lib.hid hlen
  obtain ⟨N, hNN⟩ : ∃ N, os.length = N := ⟨_, rfl⟩
  have HNN := Lib.hid hNN
  have hN : (N : Int) ≤ 10 := by omega
  rw [hNN]
  clear h hn hl hb hc hlen h10 hv hU0 hB hR1 hb1 hv1 hNN
  unfold cR at *
  go_enter Tryz.func182, Tryz.ntmps182
  go_wp2_with fail
  generalize w.alloc (.cells #[.pointer none, .pointer (some ⟨R, 0, none⟩)] 214) = w1 at *
  generalize w.heap.size = bx at *
  go_loopw [8] (fun s8 wr => ∃ k : Nat, s8 = .int .i64 (k : Int) ∧ k ≤ N ∧ RAt wr R ((ns.drop k).flatMap numZ ++ rest, 0) ∧ Blk wr g t (setAll cs (os.take k) (ns.take k)) ∧ Upd (RdF R g) w1 wr) (fun s8 _ => N - (intOf s8).toNat)
  case atStart => exact ⟨0, rfl, by omega, HR1.out, HB1.out, Upd.refl _ _⟩
  case round =>
    obtain ⟨k, rfl, hk, hR, hb, hu⟩ := hrel
    by_cases hkN : k < N
    · obtain ⟨o, ho⟩ : ∃ o, os[k]? = some o := ⟨_, List.getElem?_eq_getElem (by rw [HNN.out]; exact hkN)⟩
      obtain ⟨n, hn⟩ : ∃ n, ns[k]? = some n := ⟨_, List.getElem?_eq_getElem (by rw [← HLEN.out, HNN.out]; exact hkN)⟩
      have hdr : ns.drop k = n :: ns.drop (k + 1) := by
        obtain ⟨h1, rfl⟩ := List.getElem?_eq_some_iff.1 hn
        exact List.drop_eq_getElem_cons h1
      have hst := setAll_take os ns cs k o n ho hn
      have hdl : ((ns.drop k).flatMap numZ ++ rest).length ≤ 1000000 := by
        have := HL.out
        have e : (ns.flatMap numZ).length = ((ns.take k).flatMap numZ).length + ((ns.drop k).flatMap numZ).length := by
          conv => lhs; rw [← List.take_append_drop k ns, List.flatMap_append, List.length_append]
        rw [List.length_append] at this ⊢
        omega
      rw [hdr, List.flatMap_cons, List.append_assoc] at hR hdl
      obtain ⟨n0, hn0⟩ := (HC.out.setAll (os.take k) (ns.take k)) o (List.mem_of_getElem? ho)
      have hBr := HB.out.upd hu (fun e => by rcases e with e | e <;> omega)
      have hVr := HV1.out.upd hu (fun e => by rcases e with e | e <;> omega)
      have cv := hVr.cell k
      rw [List.getElem?_toArray, List.getElem?_map, ho] at cv
      simp only [Option.map_some] at cv
      have hnum := cnum_r hR (HN.out n (List.mem_of_getElem? hn)) hdl hb ht hg hn0
      have b0 := hBr.cell 0
      have b1 := hBr.cell 1
      simp only [List.getElem?_toArray, List.getElem?_cons_zero, List.getElem?_cons_succ] at b0 b1
      have HNU := Lib.hid hnum
      have HST := Lib.hid hst
      have HU := Lib.hid hu
      have hkI : (k : Int) < (N : Int) := by omega
      have HKN := Lib.hid hkN
      unfold cR at HNU
      clear hR hb hu ho hn hdr hst hdl hn0 hBr hVr hnum hk hkN
      go_wp2_with fail
      refine HNU.out.mono ?_
      rintro e w2 ⟨rfl, hR2, hb2, hU2⟩
      have HR2 := Lib.hid hR2
      have HB2 := Lib.hid hb2
      have HU2 := Lib.hid hU2
      clear hR2 hb2 hU2
      go_wp2_with fail
      go_roundw
      case rel => exact ⟨k + 1, by go_num, HKN.out, HR2.out, by rw [HST.out]; exact HB2.out, HU.out.same HU2.out⟩
      case measure =>
        have := HKN.out
        simp only [intOf]
        omega
    · obtain rfl : k = N := by omega
      have HR := Lib.hid hR
      have HBB := Lib.hid hb
      have HU := Lib.hid hu
      clear hR hb hu hk
      go_wp2_with fail
      go_end0
      have h1 := HR.out
      have h2 := HBB.out
      rw [List.drop_eq_nil_of_le (by rw [← HLEN.out, HNN.out]; exact Nat.le_refl _)] at h1
      rw [List.take_of_length_le (by rw [HNN.out]; exact Nat.le_refl _), List.take_of_length_le (by rw [← HLEN.out, HNN.out]; exact Nat.le_refl _)] at h2
      exact ⟨rfl, h1, h2, HU0.out.any.same HU.out⟩
end Go.Proofs.YtdfccegeihfdpaaGreatDoor
