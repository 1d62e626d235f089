/-
  History: the program's commits: where committed transactions are, and in which order.
-/
import Derived.Test.YtddknmgajacofaaHistD
import Derived.Test.YtddknmgajacofaaMapM
import Derived.Test.YtddknmgajacofaaRowK
namespace Go.Proofs.Ytddknmgajacofaa
open Go Go.RowKit

abbrev encI (n : Int) : Value := .int .i64 n
abbrev numC (n : Int) : List Value := [Value.int .i64 n]
theorem KI : KeyEnc (.int .i64) encI := keyInt .i64
theorem rkI : RowK Try.prog 25 3 numC 1 := ⟨Try.underlying25, ⟨.int .i64 0, 8, by kernel_rfl, rfl, by decide⟩, fun _ => rfl, fun a u hu => by simp [numC] at hu; subst hu; rfl, by decide⟩

/-- The committed transactions among the first n events, in the order of their commits. -/
def ordN (l : List EvD) : Nat → List Int
  | 0 => []
  | n + 1 => match l[n]? with
    | some e => if e.kind = 3 ∧ atN l n e.tx = none ∧ abN l n e.tx = false then ordN l n ++ [e.tx] else ordN l n
    | none => ordN l n
theorem ordN_len (l : List EvD) : ∀ n, (ordN l n).length ≤ n
  | 0 => Nat.le_refl _
  | n + 1 => by
    have := ordN_len l n
    simp only [ordN]
    split
    · split
      · simp; omega
      · omega
    · omega
def atF (l : List EvD) (n : Nat) : Int → Option Value := fun t => (atN l n t).map fun i => .int .i64 (i : Nat)
def abF (l : List EvD) (n : Nat) : Int → Option Value := fun t => if abN l n t = true then some (.bool true) else none
section
variable {l : List EvD} {n : Nat} {e : EvD}
theorem step_ab (h : l[n]? = some e) (h4 : e.kind = 4) : (∀ t, atF l n t = atF l (n + 1) t) ∧ (∀ t, putF (abF l n) e.tx (some (.bool true)) t = abF l (n + 1) t) ∧ ordN l (n + 1) = ordN l n := by
  refine ⟨fun t => ?_, fun t => ?_, ?_⟩
  · simp [atF, atN, isAt_of h, h4]
  · simp only [abF, abN, isAt_of h, putF]
    by_cases ht : t = e.tx
    · subst ht; simp [h4]
    · have : ¬ e.tx = t := fun e => ht e.symm
      simp [ht, this]
  · simp [ordN, h, h4]
theorem step_no (h : l[n]? = some e) (h4 : ¬ e.kind = 4) (h3 : ¬ (e.kind = 3 ∧ atN l n e.tx = none ∧ abN l n e.tx = false)) : (∀ t, atF l n t = atF l (n + 1) t) ∧ (∀ t, abF l n t = abF l (n + 1) t) ∧ ordN l (n + 1) = ordN l n := by
  refine ⟨fun t => ?_, fun t => ?_, ?_⟩
  · simp only [atF, atN, isAt_of h]
    rw [if_neg]
    simp only [Bool.and_eq_true, decide_eq_true_eq, Bool.not_eq_true', Option.isNone_iff_eq_none, not_and, and_imp]
    rintro rfl hk hn hb
    exact h3 ⟨hk, hn, hb⟩
  · simp [abF, abN, isAt_of h, h4]
  · simp only [ordN, h]; rw [if_neg h3]
theorem step_co (h : l[n]? = some e) (h3 : e.kind = 3) (hn : atN l n e.tx = none) (hb : abN l n e.tx = false) : (∀ t, putF (atF l n) e.tx (some (.int .i64 (n : Nat))) t = atF l (n + 1) t) ∧ (∀ t, abF l n t = abF l (n + 1) t) ∧ ordN l (n + 1) = ordN l n ++ [e.tx] := by
  refine ⟨fun t => ?_, fun t => ?_, ?_⟩
  · simp only [atF, atN, isAt_of h, putF]
    by_cases ht : t = e.tx
    · subst ht; simp [h3, hn, hb]
    · have : ¬ e.tx = t := fun e => ht e.symm
      simp [ht, this]
  · simp [abF, abN, isAt_of h, h3]
  · simp [ordN, h, h3, hn, hb]
end

set_option maxHeartbeats 2000000 in
set_option maxRecDepth 100000 in
theorem commits_ok {w : World} {v : Value} {l : List EvD} (h : EvsE w v l) (hl : l.length ≤ 1000) : Calls Try.prog 27 #[v] w fun r w' => ∃ b v', r = .returned (.tuple #[.map (some b), v']) ∧ w.heap.size ≤ b ∧ MapIs encI w' b (atF l l.length) ∧ OwnR 3 numC 1 w.heap.size w' v' (ordN l l.length) ∧ Upd Nowhere w w' := by
  have hmm := @run_makeMap Try.prog
  obtain ⟨A, c, rfl, hc⟩ := h.val
  have H := Lib.hid h
  have HL := Lib.hid hl
  clear h
  go_enter Try.func27, Try.ntmps27
  go_wp2_with fail
  have HM1 := Lib.hid ((MapIs.new w encI).alloc (.map #[] 0))
  have HM2 := Lib.hid (MapIs.new (w.alloc (.map #[] 0)) encI)
  have HU0 := Lib.hid (((Upd.refl Nowhere w).alloc (.map #[] 0)).alloc (.map #[] 0))
  simp only [World.size_alloc] at HM2
  generalize hw1 : (w.alloc (.map #[] 0)).alloc (.map #[] 0) = w1 at *
  clear hw1
  go_loopw [6, 15] (fun s t wr => ∃ k : Nat, k ≤ l.length ∧ t = .int .i64 k ∧ MapIs encI wr w.heap.size (atF l k) ∧ MapIs encI wr (w.heap.size + 1) (abF l k) ∧ OwnR 3 numC 1 w.heap.size wr s (ordN l k) ∧ Upd Nowhere w wr) (fun _ t _ => l.length - (intOf t).toNat)
  case atStart => exact ⟨0, by omega, rfl, HM1.out.congr fun _ => rfl, HM2.out.congr fun _ => rfl, OwnR.nil _ _ _ _ _, HU0.out⟩
  case round =>
    obtain ⟨k, hk, rfl, hm1, hm2, ho, hu⟩ := hrel
    by_cases hlt : k < l.length
    · obtain ⟨e, he⟩ : ∃ e, l[k]? = some e := ⟨_, List.getElem?_eq_getElem hlt⟩
      obtain ⟨b, off, c', hE, hb, q0, q1, q2, q3, q4⟩ := event_at (H.out.upd hu fun _ _ => id) he
      cases hE
      have hi : (k : Int) < (l.length : Nat) := by omega
      have HM1 := Lib.hid hm1
      have HM2 := Lib.hid hm2
      have HO := Lib.hid ho
      have HU := Lib.hid hu
      have HE := Lib.hid he
      clear hm1 hm2 ho hu he
      go_upto_region 6 with (fail)
      go_cut [7, 8] (fun s t wz => s = .int .i64 k ∧ t = .pointer (some ⟨wr.heap.size, 0, none⟩) ∧ Blk wz wr.heap.size 41 #[.int .i64 e.kind, .int .i64 e.tx, .string e.key, .bool e.has, .string e.data] ∧ Upd Nowhere wr wz)
      case first =>
        have hb0 := Blk.new wr 41 #[.int .i64 0, .int .i64 0, .string ⟨#[]⟩, .bool false, .string ⟨#[]⟩]
        have c0 := hb0.cell
        have f0 := hb0.frozen
        have HB := Lib.hid hb0
        clear hb0
        go_wp2_with fail
        go_meet
        exact ⟨rfl, rfl, Blk.new _ _ _, (Upd.refl _ _).alloc _⟩
      case rest =>
        obtain ⟨rfl, rfl, hB, hu⟩ := hcut
        have cb := hB.cell
        have HM1' := Lib.hid (HM1.out.upd hu id)
        have HM2' := Lib.hid (HM2.out.upd hu id)
        have HO' := Lib.hid (HO.out.upd hu fun _ _ => id)
        have HU' := Lib.hid (HU.out.trans hu fun _ _ => id)
        have HSZ := Lib.hid HU'.out.size
        have HBL := Lib.hid hB.lt
        have HLW := Lib.hid HM1.out.lt
        clear hB hu q0 q1 q2 q3 q4 HM1 HM2 HO HU
        by_cases h4 : e.kind = 4
        · obtain ⟨w2, hr2, hm2, hg2, hs2⟩ := HM2'.out.store KI Try.underlying62 Try.underlying3 e.tx (.bool true)
          have HS := Lib.hid (step_ab HE.out h4)
          have HR := Lib.hid hr2
          have HW := Lib.hid hm2
          have HG := Lib.hid hg2
          clear hr2 hm2 hg2 hs2
          go_wp2_with (at_mapUpdate; refine wpList_update_run rfl _ _ _ _ rfl rfl rfl rfl HR.out ?_)
          go_roundw
          case rel =>
            refine ⟨k + 1, by omega, by go_num, ?_, HW.out.congr HS.out.2.1, ?_, ?_⟩
            · exact (HM1'.out.grown HG.out (by simp)).congr HS.out.1
            · rw [HS.out.2.2]
              exact HO'.out.upd ((Upd.refl (· = w.heap.size + 1) _).grown HG.out fun k hk _ => by injection hk with hk; exact hk.symm) fun k hk e => by
                have h2 := HM2'.out
                subst e
                obtain ⟨cs, hcs⟩ := HO'.out.is_cells hk
                obtain ⟨_, _, hh, _⟩ := h2
                rw [hcs] at hh; cases hh
            · exact HU'.out.grown HG.out fun k hk h => by injection hk with hk; omega
          case measure => simp [intOf]; omega
        · by_cases h3 : e.kind = 3
          · cases hat : atN l k e.tx with
            | some j =>
              have hl1 : (Instr.lookup 47 (.map (some w.heap.size)) (.int .i64 e.tx) true).run Try.prog wc = .ok (.tuple #[.int .i64 (j : Nat), .bool true]) wc := by
                simpa [atF, hat] using HM1'.out.look KI Try.underlying47 Try.underlying3 (Try.zeroValue3 _) e.tx true
              have HS := Lib.hid (step_no HE.out h4 (by rw [hat]; rintro ⟨_, h, _⟩; cases h))
              go_wp2_with fail
              go_roundw
              case rel =>
                refine ⟨k + 1, by omega, by go_num, HM1'.out.congr HS.out.1, HM2'.out.congr HS.out.2.1, ?_, HU'.out⟩
                rw [HS.out.2.2]; exact HO'.out
              case measure => simp [intOf]; omega
            | none =>
              have hl1 : (Instr.lookup 47 (.map (some w.heap.size)) (.int .i64 e.tx) true).run Try.prog wc = .ok (.tuple #[.int .i64 0, .bool false]) wc := by
                simpa [atF, hat] using HM1'.out.look KI Try.underlying47 Try.underlying3 (Try.zeroValue3 _) e.tx true
              cases hab : abN l k e.tx with
              | true =>
                have hl2 : (Instr.lookup 62 (.map (some (w.heap.size + 1))) (.int .i64 e.tx) false).run Try.prog wc = .ok (.bool true) wc := by
                  simpa [abF, hab] using HM2'.out.look KI Try.underlying62 Try.underlying3 (Try.zeroValue4 _) e.tx false
                have HS := Lib.hid (step_no HE.out h4 (by rw [hab]; rintro ⟨_, _, h⟩; cases h))
                go_wp2_with fail
                go_roundw
                case rel =>
                  refine ⟨k + 1, by omega, by go_num, HM1'.out.congr HS.out.1, HM2'.out.congr HS.out.2.1, ?_, HU'.out⟩
                  rw [HS.out.2.2]; exact HO'.out
                case measure => simp [intOf]; omega
              | false =>
                have hl2 : (Instr.lookup 62 (.map (some (w.heap.size + 1))) (.int .i64 e.tx) false).run Try.prog wc = .ok (.bool false) wc := by
                  simpa [abF, hab] using HM2'.out.look KI Try.underlying62 Try.underlying3 (Try.zeroValue4 _) e.tx false
                have HS := Lib.hid (step_co HE.out h3 hat hab)
                obtain ⟨w2, hr2, hm2, hg2, hs2⟩ := HM1'.out.store KI Try.underlying47 Try.underlying3 e.tx (.int .i64 (k : Nat))
                have HR := Lib.hid hr2
                have HG := Lib.hid hg2
                have HW := Lib.hid hm2
                have cb2 : ∀ i, w2.cell? ⟨wr.heap.size, i, none⟩ = #[.int .i64 e.kind, .int .i64 e.tx, .string e.key, .bool e.has, .string e.data][i]? := fun i => by
                  rw [← cb i]
                  exact World.cell?_of_block (hg2.block _ HBL.out (by have := HLW.out; simp; omega))
                have ho2 : OwnR 3 numC 1 w.heap.size w2 u6 (ordN l k) := HO'.out.upd ((Upd.refl (· = w.heap.size) _).grown hg2 fun k hk _ => by injection hk with hk; exact hk.symm) fun k hk e => by
                  have h2 := HM1'.out
                  subst e
                  obtain ⟨cs, hcs⟩ := HO'.out.is_cells hk
                  obtain ⟨_, _, hh, _⟩ := h2
                  rw [hcs] at hh; cases hh
                have hlen := ordN_len l k
                obtain ⟨v3, w3, hr3, ho3, hg3, hb3⟩ := rkI.app1 ho2 (by have := HU'.out.size; omega) 25 e.tx #[.int .i64 e.tx] rfl (by have := HL.out; omega)
                have HR3 := Lib.hid hr3
                have HO3 := Lib.hid ho3
                have HG3 := Lib.hid hg3
                have HO2 := Lib.hid ho2
                clear hr2 hg2 hm2 hs2 ho2 hr3 ho3 hg3 hb3
                go_wp2_with (first | (at_mapUpdate; refine wpList_update_run rfl _ _ _ _ rfl rfl rfl rfl HR.out ?_) | (at_builtin; refine wpList_append_run rfl _ _ _ rfl rfl rfl HR3.out ?_))
                go_roundw
                case rel =>
                  have hne : ∀ k, u6.ownBlock = some k → k ≠ w.heap.size ∧ k ≠ w.heap.size + 1 := fun k hk => by
                    obtain ⟨cs, hcs⟩ := HO'.out.is_cells hk
                    constructor
                    · rintro rfl
                      obtain ⟨_, _, hh, _⟩ := HM1'.out
                      rw [hcs] at hh; cases hh
                    · rintro rfl
                      obtain ⟨_, _, hh, _⟩ := HM2'.out
                      rw [hcs] at hh; cases hh
                  refine ⟨k + 1, by omega, by go_num, ?_, ?_, ?_, ?_⟩
                  · exact (HW.out.grown HG3.out fun e => (hne _ e).1 rfl).congr HS.out.1
                  · exact ((HM2'.out.grown HG.out (by simp)).grown HG3.out fun e => (hne _ e).2 rfl).congr HS.out.2.1
                  · rw [HS.out.2.2]; exact HO3.out
                  · exact (HU'.out.grown HG.out fun k hk h => by injection hk with hk; omega).grown HG3.out fun k hk h => by have := HO2.out.new k hk; omega
                case measure => simp [intOf]; omega
          · have HS := Lib.hid (step_no HE.out h4 (fun h => h3 h.1))
            go_wp2_with fail
            go_roundw
            case rel =>
              refine ⟨k + 1, by omega, by go_num, HM1'.out.congr HS.out.1, HM2'.out.congr HS.out.2.1, ?_, HU'.out⟩
              rw [HS.out.2.2]; exact HO'.out
            case measure => simp [intOf]; omega
    · have hi : ¬ (k : Int) < (l.length : Nat) := by omega
      obtain rfl : k = l.length := by omega
      have HM1 := Lib.hid hm1
      have HO := Lib.hid ho
      have HU := Lib.hid hu
      clear hm1 hm2 ho hu
      go_wp2_with fail
      go_ret2
      exact ⟨_, _, rfl, Nat.le_refl _, HM1.out, HO.out, HU.out⟩
end Go.Proofs.Ytddknmgajacofaa
