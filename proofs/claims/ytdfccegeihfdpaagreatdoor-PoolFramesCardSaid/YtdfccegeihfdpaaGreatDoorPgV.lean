/-
  Contracts of the document's pages: Key, Value, has, Room, Same; right.
-/
import Derived.Test.YtdfccegeihfdpaaGreatDoorPoH
namespace Go.Proofs.YtdfccegeihfdpaaGreatDoor
open Go Go.RowKit

set_option maxRecDepth 100000 in
set_option maxHeartbeats 1000000 in
theorem rkey_ok (s : Bs) (w : World) : Calls Tryz.prog 40 #[strV s] w fun e w' => e = .returned (.bool (keyP s)) ∧ w' = w := by
  by_cases h1 : (1 : Int) ≤ (s.length : Int)
  · have hne : s ≠ [] := fun e => by subst e; simp at h1
    by_cases h2 : (s.length : Int) ≤ 16
    · go_enter Tryz.func40, Tryz.ntmps40
      go_wp2_with fail
      go_ret
      exact ⟨by unfold keyP; rw [decide_eq_true hne, decide_eq_true (by omega)]; rfl, rfl⟩
    · go_enter Tryz.func40, Tryz.ntmps40
      go_wp2_with fail
      go_ret
      exact ⟨by unfold keyP; rw [decide_eq_true hne, decide_eq_false (by omega)]; rfl, rfl⟩
  · have hne : s = [] := List.length_eq_zero_iff.1 (by omega)
    go_enter Tryz.func40, Tryz.ntmps40
    go_wp2_with fail
    go_ret
    exact ⟨by subst hne; rfl, rfl⟩
set_option maxRecDepth 100000 in
set_option maxHeartbeats 1000000 in
theorem rval_ok (h : Bool) (d : Bs) (w : World) : Calls Tryz.prog 41 #[.agg #[.bool h, strV d]] w (BoolP (valueP h d) w) := by
  cases h with
  | true =>
    by_cases h2 : (d.length : Int) ≤ 32
    · go_enter Tryz.func41, Tryz.ntmps41
      go_wp2_with fail
      go_ret
      exact ⟨by unfold valueP; rw [decide_eq_true (by omega)]; rfl, (Upd.refl _ w).alloc _⟩
    · go_enter Tryz.func41, Tryz.ntmps41
      go_wp2_with fail
      go_ret
      exact ⟨by unfold valueP; rw [decide_eq_false (by omega)]; rfl, (Upd.refl _ w).alloc _⟩
  | false =>
    by_cases h2 : d = []
    · subst h2
      go_enter Tryz.func41, Tryz.ntmps41
      go_wp2_with fail
      go_ret
      exact ⟨rfl, (Upd.refl _ w).alloc _⟩
    · have hb : (d == []) = false := beq_eq_false_iff_ne.2 h2
      go_enter Tryz.func41, Tryz.ntmps41
      go_wp2_with fail
      go_ret
      exact ⟨by unfold valueP; rw [decide_eq_false h2]; simp, (Upd.refl _ w).alloc _⟩
theorem CellOK.says {k : Ky} {v : Vl} (h : CellOK (k, v)) : keyP k = true ∧ valueP v.1 v.2 = true := by
  obtain ⟨h1, h2, h3, h4⟩ := h
  refine ⟨?_, ?_⟩
  · unfold keyP
    rw [decide_eq_true h1, decide_eq_true h2]; rfl
  · unfold valueP
    rw [decide_eq_true h3]
    rcases h4 with h4 | h4
    · rw [show v.1 = true from h4]; rfl
    · rw [decide_eq_true (by exact h4)]; simp
theorem CellOK.of {k : Ky} {v : Vl} (h1 : keyP k = true) (h2 : valueP v.1 v.2 = true) : CellOK (k, v) := by
  unfold keyP at h1
  unfold valueP at h2
  simp only [Bool.and_eq_true, Bool.or_eq_true, decide_eq_true_eq] at h1 h2
  exact ⟨h1.1, h1.2, h2.1, h2.2⟩
/-! ### the law's calls -/
structure CaV where
  kind : Int
  n : Int
  key : Bs
  vh : Bool
  vd : Bs
def CaV.cells (x : CaV) : List Value := [.int .i64 x.kind, .int .i64 x.n, strV x.key, .bool x.vh, strV x.vd]
theorem CaV.cells_len (x : CaV) : x.cells.length = 5 := rfl
def CaV.ok (x : CaV) : Prop := CellOK (x.key, (x.vh, x.vd))
structure RightP (pages frames : Int) (L : List CaV) : Prop where
  pages : 1 ≤ pages ∧ pages ≤ 20
  frames : 1 ≤ frames ∧ frames ≤ 20
  len : L.length ≤ 100
  ok : ∀ x ∈ L, x.ok
def RightR (pages frames : Int) (L : List CaV) (w : World) (e : Ending) (w' : World) : Prop := ∃ b, e = .returned (.bool b) ∧ (b = true → RightP pages frames L) ∧ Upd Nowhere w w'
theorem CaV.get {L : List CaV} {w : World} {A : Option Addr} {n c k : Nat} (h : Els 5 CaV.cells w (.slice A n c) L) {x : CaV} (hx : L[k]? = some x) : ∃ b off, A = some ⟨b, off, none⟩ ∧ b < w.heap.size ∧ w.cell? ⟨b, off + k * 5, none⟩ = some (.int .i64 x.kind) ∧ w.cell? ⟨b, off + k * 5 + 1, none⟩ = some (.int .i64 x.n) ∧ w.cell? ⟨b, off + k * 5 + 2, none⟩ = some (strV x.key) ∧ w.cell? ⟨b, off + k * 5 + 3, none⟩ = some (.bool x.vh) ∧ w.cell? ⟨b, off + k * 5 + 4, none⟩ = some (strV x.vd) := by
  obtain ⟨b, off, c', he, hb, hc⟩ := h.get CaV.cells_len hx
  cases he
  exact ⟨b, off, rfl, hb, by have := hc 0 (by omega); rw [Nat.add_zero] at this; exact this, hc 1 (by omega), hc 2 (by omega), hc 3 (by omega), hc 4 (by omega)⟩
set_option maxRecDepth 100000 in
set_option maxHeartbeats 4000000 in
theorem pright_ok (pages frames : Int) {w : World} {A : Option Addr} {n c : Nat} {L : List CaV} (hE : Els 5 CaV.cells w (.slice A n c) L) (hn : L.length = n) : Calls Tryz.prog 20 #[.int .i64 pages, .int .i64 frames, .slice A n c] w (RightR pages frames L w) := by
  have bad : ¬ (1 ≤ pages ∧ pages ≤ 20 ∧ 1 ≤ frames ∧ frames ≤ 20 ∧ (n : Int) ≤ 100) → Calls Tryz.prog 20 #[.int .i64 pages, .int .i64 frames, .slice A n c] w (RightR pages frames L w) := by
    intro hb
    by_cases h1 : pages < 1
    · go_enter Tryz.func20, Tryz.ntmps20
      go_wp2_with fail
      go_ret
      exact ⟨false, rfl, by simp, Upd.refl _ _⟩
    by_cases h2 : 20 < pages
    · go_enter Tryz.func20, Tryz.ntmps20
      go_wp2_with fail
      go_ret
      exact ⟨false, rfl, by simp, Upd.refl _ _⟩
    by_cases h3 : frames < 1
    · go_enter Tryz.func20, Tryz.ntmps20
      go_wp2_with fail
      go_ret
      exact ⟨false, rfl, by simp, Upd.refl _ _⟩
    by_cases h4 : 20 < frames
    · go_enter Tryz.func20, Tryz.ntmps20
      go_wp2_with fail
      go_ret
      exact ⟨false, rfl, by simp, Upd.refl _ _⟩
    have h5 : (100 : Int) < (n : Int) := by omega
    go_enter Tryz.func20, Tryz.ntmps20
    go_wp2_with fail
    go_ret
    exact ⟨false, rfl, by simp, Upd.refl _ _⟩
  by_cases hg : 1 ≤ pages ∧ pages ≤ 20 ∧ 1 ≤ frames ∧ frames ≤ 20 ∧ (n : Int) ≤ 100
  · clear bad
    obtain ⟨h1, h2, h3, h4, h5⟩ := hg
    have HE := Lib.hid hE
    have HN := Lib.hid hn
    have HR : Hid ((∀ x ∈ L, x.ok) → RightP pages frames L) := Lib.hid fun h => ⟨⟨h1, h2⟩, ⟨h3, h4⟩, by omega, h⟩
    have a1 : ¬ pages < 1 := by omega
    have a2 : ¬ 20 < pages := by omega
    have a3 : ¬ frames < 1 := by omega
    have a4 : ¬ 20 < frames := by omega
    have a5 : ¬ (100 : Int) < (n : Int) := by omega
    clear hE hn h1 h2 h3 h4
    go_enter Tryz.func20, Tryz.ntmps20
    go_wp2_with fail
    clear a1 a2 a3 a4 a5
    go_loopw [7] (fun s7 wr => ∃ k : Nat, s7 = .int .i64 (k : Int) ∧ k ≤ n ∧ (∀ j x, j < k → L[j]? = some x → x.ok) ∧ Upd Nowhere w wr) (fun s7 _ => n - (intOf s7).toNat)
    case atStart => exact ⟨0, rfl, by omega, fun j p hj => absurd hj (by omega), Upd.refl _ _⟩
    case round =>
      obtain ⟨k, rfl, hk, hno, hu⟩ := hrel
      by_cases hlt : k < n
      · obtain ⟨x, hx⟩ : ∃ p, L[k]? = some p := ⟨_, List.getElem?_eq_getElem (by rw [HN.out]; exact hlt)⟩
        obtain ⟨b, off, rfl, hb, p0, p1, p2, p3, p4⟩ := CaV.get (HE.out.upd hu fun _ _ => id) hx
        obtain ⟨kind, nn, key, vh, vd⟩ := x
        simp only at p0 p1 p2 p3 p4
        have hi : (k : Int) < (n : Int) := by omega
        have HU := Lib.hid hu
        have HNO := Lib.hid hno
        have HX := Lib.hid hx
        clear hu hno hx
        by_cases hk1 : keyP key = true
        · have hkc : ∀ w, Calls Tryz.prog 40 #[strV key] w fun e w' => e = .returned (.bool true) ∧ w' = w := fun w => by have := rkey_ok key w; rwa [hk1] at this
          have HKC := Lib.hid hkc
          have HK1 := Lib.hid hk1
          clear hkc hk1
          by_cases hv1 : valueP vh vd = true
          · have hvc := rval_ok vh vd wr
            rw [hv1] at hvc
            have HVC := Lib.hid hvc
            have HV1 := Lib.hid hv1
            clear hvc hv1
            go_wp2_with (first | (go_at_call 40; refine (HKC.out _).mono ?_; rintro e w9 ⟨rfl, hw9⟩; obtain rfl := hw9.symm) | (go_at_call 41; refine HVC.out.mono ?_; rintro e w9 ⟨rfl, hu9⟩))
            go_roundw
            case rel =>
              refine ⟨k + 1, by go_num, by omega, fun j p hj hp => ?_, HU.out.same hu9⟩
              rcases (by omega : j < k ∨ j = k) with h1 | rfl
              · exact HNO.out j p h1 hp
              · rw [HX.out] at hp; cases hp; exact CellOK.of HK1.out HV1.out
            case measure => simp [intOf]; omega
          · have hv1 : valueP vh vd = false := by simpa using hv1
            have hvc := rval_ok vh vd wr
            rw [hv1] at hvc
            have HVC := Lib.hid hvc
            clear hvc hv1
            go_wp2_with (first | (go_at_call 40; refine (HKC.out _).mono ?_; rintro e w9 ⟨rfl, hw9⟩; obtain rfl := hw9.symm) | (go_at_call 41; refine HVC.out.mono ?_; rintro e w9 ⟨rfl, hu9⟩))
            go_ret
            exact ⟨false, rfl, by simp, HU.out.same hu9⟩
        · have hk1 : keyP key = false := by simpa using hk1
          have hkc : ∀ w, Calls Tryz.prog 40 #[strV key] w fun e w' => e = .returned (.bool false) ∧ w' = w := fun w => by have := rkey_ok key w; rwa [hk1] at this
          have HKC := Lib.hid hkc
          clear hkc hk1
          go_wp2_with (first | (go_at_call 40; refine (HKC.out _).mono ?_; rintro e w9 ⟨rfl, hw9⟩; obtain rfl := hw9.symm))
          go_ret
          exact ⟨false, rfl, by simp, HU.out⟩
      · have e : k = n := by omega
        subst e
        have hi : ¬ (k : Int) < (k : Int) := by omega
        have HU := Lib.hid hu
        have HNO := Lib.hid hno
        clear hu hno
        go_wp2_with fail
        go_ret
        refine ⟨true, rfl, fun _ => HR.out fun x hx => ?_, HU.out⟩
        obtain ⟨j, hj, e⟩ := List.getElem_of_mem hx
        exact HNO.out j x (by have := HN.out; omega) (by rw [List.getElem?_eq_getElem hj, e])
  · exact bad hg
end Go.Proofs.YtdfccegeihfdpaaGreatDoor
