/-
  Contracts of the document's pages: May.
-/
import Derived.Test.YtdfccegeihfdpaaGreatDoorPgW
import Derived.Deep.Quiet
import Derived.BigQuiet
import Derived.Deep.RegionHeld3
namespace Go.Proofs.YtdfccegeihfdpaaGreatDoor
open Go Go.RowKit

section
variable {P : Program} {ops : Array Oper} {C : World → Prop} {Q : Act → Prop} {K : Act → Prop} {a : Act} {o : Oper} {rest : List Oper}
theorem quiet_val {v : Value} (h : ∀ w, C w → (execOp a.eval o).run P w = .ok (.value v) w) (hk : K (a.put o.dst v)) : o.quiet P a C K :=
  ⟨v, fun w hw => by unfold Oper.quietAt; rw [h w hw]; exact ⟨rfl, rfl⟩, hk⟩
theorem quiet_load (ty : TypeId) (x : Operand) (ho : o.op = .load ty x) {p v : Value} (hx : a.eval x = p) (h : ∀ w, C w → (Instr.loadAt ty p).run P w = .ok v w) (hk : K (a.put o.dst v)) : o.quiet P a C K :=
  quiet_val (fun w hw => by
    unfold execOp
    simp only [ho, hx, Sem.run_bind, Sem.run_pure, h w hw, Result.andThen_ok]) hk
theorem quiet_call {f : FuncId} {args : Array Value} {v : Value} (hr : ∀ w, C w → (execOp a.eval o).run P w = .ok (.enter f args) w) (h : ∀ w, C w → Calls P f args w fun e w' => e = .returned v ∧ C w') (hk : K (a.put o.dst v)) : o.quiet P a C K :=
  ⟨v, fun w hw => by unfold Oper.quietAt; rw [hr w hw]; exact ⟨rfl, h w hw⟩, hk⟩
/-- A region that draws, walked in the order of the text, in the worlds that grew out of w0. -/
theorem wp_region_grown {id : Nat} {Q' : Exit → Act → World → Prop} {w0 w : World} {l : List Oper} (hm : P.follows .mixedOrders = true) (hB : Region.lexB .any l.toArray = true) (hw : Upd Nowhere w0 w)
    (h : wpQuiet P l.toArray (fun w' => Upd Nowhere w0 w') (fun a' => ∀ w', Upd Nowhere w0 w' → Q' .normal a' w') l a) : (Code.region id l.toArray true).wp P Q' a w :=
  wp_region_quiet (C := fun w' => Upd Nowhere w0 w') hm hB hw.drew (by simpa using h)
end

set_option maxRecDepth 100000 in
set_option maxHeartbeats 8000000 in
theorem rmay_ok {w : World} {v : Value} {p : PgP} (h : CellsE w v p.cells) (hp : p.ok) : Calls Tryz.prog 82 #[.agg #[.int .i64 (p.lsn : Nat), v]] w fun e w' => e = .returned (.bool true) ∧ Upd Nowhere w w' := by
  obtain ⟨lsn, L⟩ := p
  obtain ⟨A, c, rfl, hc⟩ := h.val
  obtain ⟨hlsn, hlen, hris, hmay⟩ := hp
  simp only at h hc hlsn hlen hris hmay ⊢
  have hb0 := Blk.new w 72 #[.int .i64 (lsn : Nat), .slice A L.length c]
  have HU0 := Lib.hid ((Upd.refl Nowhere w).alloc (.cells #[.int .i64 (lsn : Nat), .slice A L.length c] 72))
  have HB0 := Lib.hid hb0
  have H := Lib.hid h
  have HRIS : Hid (∀ (i : Nat) (x y : Ky × Vl), L[i]? = some x → L[i + 1]? = some y → x.1 < y.1) := Lib.hid fun i x y hx hy => by
    obtain ⟨h1, rfl⟩ := List.getElem?_eq_some_iff.1 hx
    obtain ⟨h2, rfl⟩ := List.getElem?_eq_some_iff.1 hy
    exact List.pairwise_iff_getElem.1 hris i (i + 1) h1 h2 (by omega)
  have HMAY : Hid (∀ (i : Nat) (x : Ky × Vl), L[i]? = some x → CellOK x) := Lib.hid fun i x hx => hmay x (List.mem_of_getElem? hx)
  obtain ⟨n, hn⟩ : ∃ n, L.length = n := ⟨_, rfl⟩
  rw [hn] at H HB0 HU0 hb0 hlen hc ⊢
  have HN := Lib.hid hn
  have c0 := hb0.cell 0
  have c1 := hb0.cell 1
  simp only [List.getElem?_toArray, List.getElem?_cons_zero, List.getElem?_cons_succ] at c0 c1
  have g1 : ¬ (lsn : Int) < 0 := by omega
  have g2 : ¬ (1099511627776 : Int) < (lsn : Int) := by omega
  have g3 : ¬ (4 : Int) < (n : Int) := by omega
  clear h hb0 hn hris hmay hlsn
  go_enter Tryz.func82, Tryz.ntmps82
  go_wp2_with fail
  generalize w.alloc (.cells #[.int .i64 (lsn : Nat), .slice A n c] 72) = w1 at *
  clear c0 c1 g1 g2 g3
  go_loopw [3] (fun s3 wr => ∃ k : Nat, s3 = .int .i64 (k : Int) ∧ k ≤ n ∧ Upd Nowhere w1 wr) (fun s3 _ => n - (intOf s3).toNat)
  case atStart => exact ⟨0, rfl, by omega, Upd.refl _ _⟩
  case round =>
    obtain ⟨k, rfl, hk, hu⟩ := hrel
    have hbr := HB0.out.upd hu id
    have c1 := hbr.cell 1
    simp only [List.getElem?_toArray, List.getElem?_cons_zero, List.getElem?_cons_succ] at c1
    by_cases hlt : k < n
    · obtain ⟨⟨kk, vh, vd⟩, hp⟩ : ∃ p, L[k]? = some p := ⟨_, List.getElem?_eq_getElem (by rw [HN.out]; exact hlt)⟩
      have hce := (H.out.up HU0.out).up hu
      have hg := hce.get hp
      rw [HN.out] at hg
      obtain ⟨b, off, c', he, hb, p0, p1, p2⟩ := hg
      cases he
      simp only at p0 p1 p2
      have hi : (k : Int) < (n : Int) := by omega
      have hne : (n : Int) ≤ 4 := by omega
      obtain ⟨hs1, hs2⟩ := (HMAY.out k _ hp).says
      have HKC : Hid (∀ w, Calls Tryz.prog 40 #[strV kk] w fun e w' => e = .returned (.bool true) ∧ w' = w) := Lib.hid fun w => by have := rkey_ok kk w; rwa [hs1] at this
      have HVC : Hid (∀ w, Calls Tryz.prog 41 #[.agg #[.bool vh, strV vd]] w (BoolP true w)) := Lib.hid fun w => by have := rval_ok vh vd w; rwa [hs2] at this
      have HU := Lib.hid hu
      have HBR := Lib.hid hbr
      have HB := Lib.hid hb
      have hq := Blk.new wr 155 #[strV kk, .bool vh, strV vd]
      have HUA := Lib.hid ((Upd.refl Nowhere wr).alloc (.cells #[strV kk, .bool vh, strV vd] 155))
      have hba := hbr.alloc (.cells #[strV kk, .bool vh, strV vd] 155)
      obtain ⟨m, hm⟩ : ∃ m : Nat, k - 1 = m := ⟨_, rfl⟩
      obtain ⟨⟨pk, ph, pd⟩, hpp⟩ : ∃ p, L[m]? = some p := ⟨_, List.getElem?_eq_getElem (by rw [HN.out]; omega)⟩
      have hgp := (hce.up HUA.out).get hpp
      rw [HN.out] at hgp
      obtain ⟨b2, off2, c2, he2, hb2, r0, r1, r2⟩ := hgp
      cases he2
      simp only at r0
      have hlk : k ≠ 0 → pk < kk := fun h0 => HRIS.out m _ _ hpp (by rw [show m + 1 = k by omega]; exact hp)
      clear r1 r2 hb2
      generalize hwA : wr.alloc (.cells #[strV kk, .bool vh, strV vd] 155) = wA at *
      obtain ⟨bx, hbx⟩ : ∃ bx, wr.heap.size = bx := ⟨_, rfl⟩
      rw [hbx] at hq
      have hEE : ∀ W, Upd Nowhere wA W → (W.cell? ⟨bx, 0, none⟩ = some (strV kk) ∧ W.cell? ⟨bx, 1, none⟩ = some (.bool vh) ∧ W.cell? ⟨bx, 2, none⟩ = some (strV vd) ∧ W.cell? ⟨w.heap.size, 1, none⟩ = some (.slice (some ⟨b, off, none⟩) n c) ∧ W.cell? ⟨b, off + m * 3, none⟩ = some (strV pk)) := fun W hW => by
        have q := hq.upd hW id
        have q0 := q.cell 0
        have q1 := q.cell 1
        have q2 := q.cell 2
        have z1 := (hba.upd hW id).cell 1
        simp only [List.getElem?_toArray, List.getElem?_cons_zero, List.getElem?_cons_succ] at q0 q1 q2 z1
        refine ⟨q0, q1, q2, z1, ?_⟩
        have := (((hce.up HUA.out).up hW).get hpp)
        rw [HN.out] at this
        obtain ⟨b3, off3, c3, he3, _, r3, _⟩ := this
        cases he3
        exact r3
      have HEE := Lib.hid hEE
      have dd := hEE wA (Upd.refl _ _)
      have d2 := hEE wA.drew (Upd.refl Nowhere _).drew
      have hKC := HKC.out
      by_cases hk0 : k = 0
      · have hkc : ¬ (0 : Int) < (k : Int) := by omega
        have hkn : ¬ 0 < k := by omega
        clear hu hce hbr hs1 hs2 hp hq hba hEE hlk hpp hk0 hm HBR HB HRIS HMAY
        go_wp2_with fail
        go_cut [56] (fun t56 wz => t56 = .bool false ∧ Upd Nowhere wA wz)
        case first =>
          refine wp_region_grown (w0 := wA) (by kernel_rfl) (by kernel_rfl) (Upd.refl _ _) ?_
          go_big_quiet_want
          refine quiet_val (v := .pointer (some ⟨bx, 0, none⟩)) (fun w' hw' => by obtain ⟨q0, q1, q2, q3, q4⟩ := HEE.out w' hw'; go_simp) ?_
          go_simp
          go_big_quiet_on
          go_big_quiet_want
          refine quiet_val (v := strV kk) (fun w' hw' => by obtain ⟨q0, q1, q2, q3, q4⟩ := HEE.out w' hw'; go_simp) ?_
          go_simp
          go_big_quiet_on
          go_big_quiet_want
          refine quiet_call (f := 40) (args := #[strV kk]) (v := .bool true) (fun w' hw' => by go_simp) (fun w' hw' => (hKC w').mono (by rintro e w9 ⟨rfl, rfl⟩; exact ⟨rfl, hw'⟩)) ?_
          go_simp
          go_big_quiet_on
          go_big_quiet_want
          refine quiet_val (v := .bool false) (fun w' hw' => by obtain ⟨q0, q1, q2, q3, q4⟩ := HEE.out w' hw'; go_simp) ?_
          go_simp
          go_big_quiet_on
          go_big_quiet_want
          refine BigFrame.quiet_move (.tmp 34) rfl ?_
          go_simp
          go_big_quiet_on
          go_big_quiet_want
          refine quiet_val (v := .pointer (some ⟨bx, 1, none⟩)) (fun w' hw' => by obtain ⟨q0, q1, q2, q3, q4⟩ := HEE.out w' hw'; go_simp) ?_
          go_simp
          go_big_quiet_on
          go_big_quiet_want
          refine quiet_val (v := .agg #[.bool vh, strV vd]) (fun w' hw' => by obtain ⟨q0, q1, q2, q3, q4⟩ := HEE.out w' hw'; go_simp) ?_
          go_simp
          go_big_quiet_on
          go_big_quiet_want
          refine quiet_call (f := 41) (args := #[.agg #[.bool vh, strV vd]]) (v := .bool true) (fun w' hw' => by go_simp) (fun w' hw' => (HVC.out w').mono (by rintro e w9 ⟨rfl, hu9⟩; exact ⟨rfl, hw'.same hu9⟩)) ?_
          go_simp
          go_big_quiet_on
          go_big_quiet_want
          refine quiet_val (v := .bool false) (fun w' hw' => by obtain ⟨q0, q1, q2, q3, q4⟩ := HEE.out w' hw'; go_simp) ?_
          go_simp
          go_big_quiet_on
          go_big_quiet_want
          refine quiet_val (v := .bool false) (fun w' hw' => by obtain ⟨q0, q1, q2, q3, q4⟩ := HEE.out w' hw'; go_simp) ?_
          go_simp
          go_big_quiet_on
          go_big_quiet_want
          refine BigFrame.quiet_move (.tmp 40) rfl ?_
          go_simp
          go_big_quiet_on
          go_big_quiet_want
          refine BigFrame.quiet_move (.tmp 3) rfl ?_
          go_simp
          go_big_quiet_on
          go_big_quiet_want
          refine quiet_val (v := .bool false) (fun w' hw' => by obtain ⟨q0, q1, q2, q3, q4⟩ := HEE.out w' hw'; go_simp) ?_
          go_simp
          go_big_quiet_on
          go_big_quiet_want
          refine BigFrame.quiet_move (.tmp 43) rfl ?_
          go_simp
          go_big_quiet_on
          go_big_quiet_skip
          go_big_quiet_skip
          go_big_quiet_skip
          go_big_quiet_skip
          go_big_quiet_skip
          go_big_quiet_skip
          go_big_quiet_skip
          go_big_quiet_skip
          go_big_quiet_skip
          go_big_quiet_skip
          go_big_quiet_want
          refine quiet_val (v := .bool false) (fun w' hw' => by obtain ⟨q0, q1, q2, q3, q4⟩ := HEE.out w' hw'; go_simp) ?_
          go_simp
          go_big_quiet_on
          go_big_quiet_want
          refine quiet_val (v := .bool false) (fun w' hw' => by obtain ⟨q0, q1, q2, q3, q4⟩ := HEE.out w' hw'; go_simp) ?_
          go_simp
          go_big_quiet_on
          refine wpQuiet_nil ?_
          intro w9 hw9
          go_wp2_with fail
          go_meet
          exact ⟨rfl, hw9⟩
        case rest =>
          obtain ⟨rfl, hu⟩ := hcut
          go_wp2_with fail
          go_roundw
          case rel => exact ⟨k + 1, by go_num, by omega, (HU.out.same HUA.out).same hu⟩
          case measure => simp [intOf]; omega
      · have hkc : (0 : Int) < (k : Int) := by omega
        have hkn : 0 < k := by omega
        have hsub : IntKind.i64.wrap ((k : Int) - 1) = (m : Nat) := by rw [IntWalk.i64_in _ (by omega)]; omega
        have hlt2 : pk < kk := hlk hk0
        have hbl : Op.bytesLess pk kk = true := by rw [_root_.Go.Proofs.bytesLess_eq]; simpa using hlt2
        have hbl2 : Op.bytesLess kk pk = false := by rw [_root_.Go.Proofs.bytesLess_eq]; simpa using List.le_of_lt hlt2
        have hbe : (pk == kk) = false := by rw [beq_eq_false_iff_ne]; rintro rfl; exact absurd hlt2 (List.lt_irrefl _)
        have hmn : (m : Int) < (n : Int) := by omega
        clear hu hce hbr hs1 hs2 hp hq hba hEE hlk hpp hk0 hm HBR HB HRIS HMAY hlt2
        go_wp2_with fail
        go_cut [56] (fun t56 wz => t56 = .bool false ∧ Upd Nowhere wA wz)
        case first =>
          go_region_held3 (fun w' => w'.cell? ⟨bx, 0, none⟩ = some (strV kk) ∧ w'.cell? ⟨bx, 1, none⟩ = some (.bool vh) ∧ w'.cell? ⟨bx, 2, none⟩ = some (strV vd) ∧ w'.cell? ⟨w.heap.size, 1, none⟩ = some (.slice (some ⟨b, off, none⟩) n c) ∧ w'.cell? ⟨b, off + m * 3, none⟩ = some (strV pk)) (first | with_reducible exact dd | with_reducible exact d2 | with_reducible exact k2)
            (first
              | (go_at_call 40
                 refine (hKC _).mono ?_
                 rintro e w9 ⟨rfl, hw9⟩
                 obtain rfl := hw9.symm)
              | (go_at_call 41
                 refine (HVC.out _).mono ?_
                 rintro e w3 ⟨rfl, hU3⟩
                 have hU3' : Upd Nowhere wA w3 := (Upd.refl Nowhere wA).drew.same hU3
                 have k2 := HEE.out w3 hU3'
                 have HU3 := Lib.hid hU3'
                 clear hU3 hU3'))
          all_goals
            go_wp2_with fail
            go_meet
            exact ⟨rfl, HU3.out⟩
        case rest =>
          obtain ⟨rfl, hu⟩ := hcut
          go_wp2_with fail
          go_roundw
          case rel => exact ⟨k + 1, by go_num, by omega, (HU.out.same HUA.out).same hu⟩
          case measure => simp [intOf]; omega
    · have e : k = n := by omega
      subst e
      have hi : ¬ (k : Int) < (k : Int) := by omega
      have HU := Lib.hid hu
      clear hu hbr
      go_wp2_with fail
      go_ret
      exact ⟨rfl, HU0.out.same HU.out⟩
end Go.Proofs.YtdfccegeihfdpaaGreatDoor
