/-
  The program's Strict.
-/
import Derived.Test.YtddknmgajacofaaTeJ
import Derived.Test.YtddknmgajacofaaTeK
import Derived.Test.YtddknmgajacofaaTeO
namespace Go.Proofs.Ytddknmgajacofaa
open Go Go.RowKit

abbrev encB (s : ByteArray) : Value := .string s
theorem KB : KeyEnc .string encB := ⟨fun _ => trivial, fun h => by injection h⟩
/-- The map of one who wrote, or of nobody. -/
def oneF (o : Option Int) : Int → Option Value := fun t => if o = some t then some (.bool true) else none
/-- So is a transaction taken out of it. -/
def cutO (o : Option Int) (t : Int) : Option Int := if o = some t then none else o
theorem oneF_cut (o : Option Int) (t x : Int) : putF (oneF o) t none x = oneF (cutO o t) x := by
  unfold putF oneF cutO
  by_cases h : x = t
  · subst h
    rw [if_pos rfl]
    by_cases h2 : o = some x
    · rw [if_pos h2]; simp
    · rw [if_neg h2, if_neg h2]
  · rw [if_neg h]
    by_cases h2 : o = some t
    · rw [if_pos h2, h2]
      have : ¬ t = x := fun e => h e.symm
      simp [this]
    · rw [if_neg h2]
abbrev mapV (b : Nat) : Value := .map (some b)
/-- The map of open writes: o tells each key's. -/
def OpenAt (B : Nat) (W : World) (bm : Nat) (f : ByteArray → Option Nat) (o : ByteArray → Option Int) : Prop :=
  MapIs encB W bm (fun K => (f K).map mapV) ∧ (∀ K, f K = none → o K = none) ∧ (∀ K b, f K = some b → B ≤ b ∧ MapIs encI W b (oneF (o K))) ∧ ∀ K K' b, K ≠ K' → f K = some b → f K' ≠ some b
section
variable {B bm : Nat} {W W' : World} {f : ByteArray → Option Nat} {o : ByteArray → Option Int}
theorem OpenAt.upd {F : Nat → Prop} (h : OpenAt B W bm f o) (hu : Upd F W W') (hb : ¬ F bm) (hF : ∀ K b, f K = some b → ¬ F b) : OpenAt B W' bm f o :=
  ⟨h.1.upd hu hb, h.2.1, fun K b hK => ⟨(h.2.2.1 K b hK).1, (h.2.2.1 K b hK).2.upd hu (hF K b hK)⟩, h.2.2.2⟩
theorem OpenAt.congr {o' : ByteArray → Option Int} (h : OpenAt B W bm f o) (e : ∀ K, o K = o' K) : OpenAt B W bm f o' := by
  rw [show o' = o from funext fun K => (e K).symm]; exact h
theorem OpenAt.look (h : OpenAt B W bm f o) (K : ByteArray) : (Instr.lookup 74 (.map (some bm)) (.string K) false).run Try.prog W = .ok (((f K).map mapV).getD (.map none)) W := by
  have := h.1.look KB (P := Try.prog) Try.underlying74 Try.underlying9 (Try.zeroValue62 _) K false
  simpa using this
theorem oneF_len {b : Nat} {x : Option Int} (h : MapIs encI W b (oneF x)) (ty : TypeId) : (Builtin.len_ #[62] ty #[.map (some b)]).run Try.prog W = .ok (.int .i64 (x.toList.length : Nat)) W :=
  h.len (fun h => by injection h) (by cases x <;> simp) (fun a => by
    unfold oneF
    cases x with
    | none => simp
    | some t =>
      by_cases e : t = a
      · subst e; simp
      · have : ¬ a = t := fun h => e h.symm
        simp [e, this]) Try.underlying62 ty
theorem oneF_look {b : Nat} {x : Option Int} (h : MapIs encI W b (oneF x)) (t : Int) : (Instr.lookup 62 (.map (some b)) (.int .i64 t) false).run Try.prog W = .ok (.bool (decide (x = some t))) W := by
  have := h.look KI (P := Try.prog) Try.underlying62 Try.underlying3 (Try.zeroValue4 _) t false
  simp only [Bool.false_eq_true, if_false] at this
  rw [this]
  unfold oneF
  by_cases e : x = some t <;> simp [e]
/-- open[K] = map[int]bool{t: true}. -/
theorem OpenAt.write (h : OpenAt B W bm f o) (hB : B ≤ W.heap.size) (hbm : bm < B) (K : ByteArray) (t : Int) : ∃ W1 W2, (Instr.mapUpdate 62 (.map (some W.heap.size)) (.int .i64 t) (.bool true)).run Try.prog (W.alloc (.map #[] 0)) = .ok () W1 ∧
    (Instr.mapUpdate 74 (.map (some bm)) (.string K) (.map (some W.heap.size))).run Try.prog W1 = .ok () W2 ∧ (∃ f', OpenAt B W2 bm f' (fun K' => if K' = K then some t else o K')) ∧ Upd (fun k => k = bm) W W2 := by
  have hlt := h.1.lt
  obtain ⟨W1, hr1, hm1, hg1, hs1⟩ := (MapIs.new W encI).store KI (P := Try.prog) Try.underlying62 Try.underlying3 t (.bool true)
  have hu1 : Upd Nowhere W W1 := ((Upd.refl Nowhere W).alloc _).grown hg1 fun k hk h => by injection hk with hk; omega
  have hm0 : MapIs encB W1 bm (fun K => (f K).map mapV) := h.1.upd hu1 id
  obtain ⟨W2, hr2, hm2, hg2, hs2⟩ := hm0.store KB (P := Try.prog) Try.underlying74 Try.underlying9 K (.map (some W.heap.size))
  have hu2 : Upd (fun k => k = bm) W1 W2 := (Upd.refl _ W1).grown hg2 fun k hk _ => (Option.some.inj hk).symm
  have hnew : MapIs encI W2 W.heap.size (oneF (some t)) := (hm1.upd hu2 (by omega)).congr fun x => by
    unfold putF oneF
    by_cases e : x = t
    · subst e; simp
    · have : ¬ t = x := fun h => e h.symm
      simp [e, this]
  refine ⟨W1, W2, hr1, hr2, ⟨fun K' => if K' = K then some W.heap.size else f K', hm2.congr fun K' => ?_, fun K' hK' => ?_, fun K' b hK' => ?_, fun K1 K2 b hne h1 h2 => ?_⟩, (hu1.mono fun _ _ h => h.elim).trans hu2 fun k _ hk => hk⟩
  · by_cases e : K' = K
    · simp [putF, e]
    · simp [putF, e]
  · dsimp only at hK' ⊢
    by_cases e : K' = K
    · rw [if_pos e] at hK'; cases hK'
    · rw [if_neg e] at hK'
      rw [if_neg e]
      exact h.2.1 K' hK'
  · dsimp only at hK' ⊢
    by_cases e : K' = K
    · rw [if_pos e] at hK'
      cases hK'
      rw [if_pos e]
      exact ⟨hB, hnew⟩
    · rw [if_neg e] at hK'
      rw [if_neg e]
      obtain ⟨h3, h4⟩ := h.2.2.1 K' b hK'
      exact ⟨h3, (h4.upd hu1 id).upd hu2 (by omega)⟩
  · dsimp only at h1 h2
    by_cases e1 : K1 = K
    · rw [if_pos e1] at h1
      cases h1
      rw [if_neg (fun e => hne (e1.trans e.symm))] at h2
      have := (h.2.2.1 K2 _ h2).2.lt
      omega
    · rw [if_neg e1] at h1
      by_cases e2 : K2 = K
      · rw [if_pos e2] at h2
        cases h2
        have := (h.2.2.1 K1 _ h1).2.lt
        omega
      · rw [if_neg e2] at h2
        exact h.2.2.2 K1 K2 b hne h1 h2
/-- delete(who, t), of one key's. -/
theorem OpenAt.del (h : OpenAt B W bm f o) (hbm : bm < B) {K : ByteArray} {b : Nat} (hK : f K = some b) (t : Int) : ∃ W2, (Builtin.delete_ #[62, 3] 0 #[.map (some b), .int .i64 t]).run Try.prog W = .ok (.tuple #[]) W2 ∧
    OpenAt B W2 bm f (fun K' => if K' = K then cutO (o K) t else o K') ∧ Upd (fun k => k = b) W W2 := by
  obtain ⟨hBb, hmb⟩ := h.2.2.1 K b hK
  obtain ⟨W2, hr2, hm2, hg2, hs2⟩ := hmb.del KI (P := Try.prog) (ts := #[62, 3]) (ty := 0) rfl Try.underlying62 Try.underlying3 t
  have hu2 : Upd (fun k => k = b) W W2 := (Upd.refl _ W).grown hg2 fun k hk _ => (Option.some.inj hk).symm
  refine ⟨W2, hr2, ⟨h.1.upd hu2 (by omega), fun K' hK' => ?_, fun K' b' hK' => ?_, h.2.2.2⟩, hu2⟩
  · have : K' ≠ K := fun e => by rw [e, hK] at hK'; cases hK'
    dsimp only
    rw [if_neg this]
    exact h.2.1 K' hK'
  · dsimp only
    by_cases e : K' = K
    · subst e
      rw [hK] at hK'
      cases hK'
      rw [if_pos rfl]
      exact ⟨hBb, hm2.congr fun x => oneF_cut _ _ _⟩
    · rw [if_neg e]
      obtain ⟨h3, h4⟩ := h.2.2.1 K' b' hK'
      exact ⟨h3, h4.upd hu2 fun e' => h.2.2.2 K' K b' e hK' (by rw [e']; exact hK)⟩
end

theorem RangeIs.iterB {W : World} {r m cnt : Nat} {f : ByteArray → Option Value} {left : ByteArray → Prop} (h : RangeIs encB W r m f left cnt) : ∃ o, W.heap[r]? = some o ∧ o.isCells = false ∧ ∀ es ck, o ≠ .map es ck := by
  obtain ⟨es, ck, since, seen, c0, _, _, _, _, h5, _⟩ := h
  exact ⟨_, h5, rfl, fun _ _ e => by cases e⟩
section
variable {l : List EvD} {i : Nat} {e : EvD}
theorem ownK_read (he : l[i]? = some e) (h2 : ¬ e.kind = 2) (h3 : ¬ e.kind = 3) (h4 : ¬ e.kind = 4) (K : ByteArray) : ownK l i K = ownK l (i + 1) K := by simp [ownK, he, h2, h3, h4]
theorem ownK_write (he : l[i]? = some e) (h2 : e.kind = 2) (K : ByteArray) : (if K = e.key then some e.tx else ownK l i K) = ownK l (i + 1) K := by
  simp only [ownK, he, h2, true_and]
  by_cases h : K = e.key
  · rw [if_pos h, if_pos h.symm]
  · rw [if_neg h, if_neg fun h' => h h'.symm]
    simp
theorem ownK_end (he : l[i]? = some e) (h34 : e.kind = 3 ∨ e.kind = 4) (K : ByteArray) : cutO (ownK l i K) e.tx = ownK l (i + 1) K := by
  have h2 : ¬ e.kind = 2 := by omega
  simp only [ownK, he, h2, false_and, if_false, h34, true_and]
  rfl
end
set_option maxHeartbeats 8000000 in
set_option maxRecDepth 100000 in
theorem strict_ok {w : World} {v : Value} {l : List EvD} (h : EvsE w v l) (hl : l.length ≤ 60) : Calls Try.prog 16 #[v] w fun r w' => FlagT r (StrictP l) ∧ Upd Nowhere w w' := by
  have hmm := @run_makeMap Try.prog
  obtain ⟨A, c, rfl, hc⟩ := h.val
  have H := Lib.hid h
  clear h
  have HIFF : Hid (StrictP l ↔ ∀ n, PassK l n) := Lib.hid (strict_iff l)
  go_enter Try.func16, Try.ntmps16
  go_wp2_with fail
  have HO0 : Hid (OpenAt (w.heap.size + 1) (w.alloc (.map #[] 0)) w.heap.size (fun _ => none) (fun _ => none)) := Lib.hid ⟨MapIs.new w encB, fun _ _ => rfl, fun _ _ h => (by cases h), fun _ _ _ _ h => (by cases h)⟩
  have HU0 := Lib.hid ((Upd.refl Nowhere w).alloc (.map #[] 0))
  have HS0 : Hid ((w.alloc (.map #[] 0)).heap.size = w.heap.size + 1) := Lib.hid (by simp)
  generalize w.alloc (.map #[] 0) = w1 at *
  go_loopw [12] (fun s wr => ∃ (i : Nat) (f : ByteArray → Option Nat), i ≤ l.length ∧ s = .int .i64 i ∧ OpenAt (w.heap.size + 1) wr w.heap.size f (ownK l i) ∧ (∀ n, n < i → PassK l n) ∧ Upd Nowhere w wr ∧ w.heap.size < wr.heap.size) (fun s _ => l.length - (intOf s).toNat)
  case atStart => exact ⟨0, _, by omega, rfl, HO0.out, fun n h => by omega, HU0.out, by have := HS0.out; omega⟩
  case round =>
    obtain ⟨i, f, hi, rfl, ho, hp, hu, hsz⟩ := hrel
    have HO := Lib.hid ho
    have HP := Lib.hid hp
    have HU := Lib.hid hu
    clear ho hp hu
    by_cases hlt : i < l.length
    · obtain ⟨e, he⟩ : ∃ e, l[i]? = some e := ⟨_, List.getElem?_eq_getElem hlt⟩
      obtain ⟨b1, o1, c1, hE1, hb1, q0, q1, q2, q3, q4⟩ := event_at (H.out.upd HU.out fun _ _ => id) he
      cases hE1
      have hii : (i : Int) < (l.length : Nat) := by omega
      have HE := Lib.hid he
      clear he
      go_upto_region 4 with (fail)
      go_cut [5, 12] (fun s t wz => s = .pointer (some ⟨wr.heap.size, 0, none⟩) ∧ t = .int .i64 i ∧ ∃ W, W = wz ∧ Blk W wr.heap.size 41 e.arr ∧ Upd Nowhere wr W)
      case first =>
        have hb0 := Blk.new wr 41 #[.int .i64 0, .int .i64 0, .string ⟨#[]⟩, .bool false, .string ⟨#[]⟩]
        have c0 := hb0.cell
        have f0 := hb0.frozen
        clear hb0
        go_wp2_with fail
        go_meet
        exact ⟨rfl, rfl, _, rfl, Blk.new _ _ _, (Upd.refl _ _).alloc _⟩
      case rest =>
        obtain ⟨rfl, rfl, W, rfl, hB, hu⟩ := hcut
        obtain ⟨BX, hBX⟩ : ∃ k, wr.heap.size = k := ⟨_, rfl⟩
        have HOW := Lib.hid (HO.out.upd hu id fun _ _ _ => id)
        have HUW := Lib.hid (HU.out.trans (F := Nowhere) hu fun _ _ => id)
        have HB := Lib.hid hB
        have HSW := Lib.hid (Nat.lt_of_lt_of_le hsz hu.size)
        have cB := hB.cell
        clear q0 q1 q2 q3 q4 hB hu
        rw [hBX] at HB cB
        simp only [hBX]
        clear hBX
        by_cases hk12 : e.kind = 1 ∨ e.kind = 2
        · have hlk := HOW.out.look e.key
          cases hf : f e.key with
          | none =>
            rw [hf] at hlk
            simp only [Option.map_none, Option.getD_none] at hlk
            have HOWN := Lib.hid (HOW.out.2.1 e.key hf)
            have HPN : Hid (∀ n, n < i + 1 → PassK l n) := Lib.hid fun n hn => by
              rcases (by omega : n < i ∨ n = i) with h1 | rfl
              · exact HP.out n h1
              · intro e' he' _
                rw [HE.out] at he'
                cases he'
                exact .inl HOWN.out
            clear hf
            by_cases k2 : e.kind = 2
            · have b1 : (e.kind == 1) = false := by simp [k2]
              have b2 : (e.kind == 2) = true := by simp [k2]
              have HCG := Lib.hid (ownK_write HE.out k2)
              obtain ⟨X1, X2, hx1, hx2, ⟨f', hO2⟩, hu2⟩ := HOW.out.write (by have := HSW.out; omega) (by omega) e.key e.tx
              have HX2 := Lib.hid hx2
              have HO2 := Lib.hid (hO2.congr HCG.out)
              have HU2 := Lib.hid (HUW.out.trans (F := Nowhere) hu2 fun k hk h => by omega)
              have HS2 := Lib.hid (Nat.lt_of_lt_of_le HSW.out hu2.size)
              have cA := (HB.out.alloc (.map #[] 0)).cell
              clear hx2 hO2 hu2
              go_wp2_with (at_mapUpdate; refine wpList_update_run rfl _ _ _ _ rfl rfl rfl rfl HX2.out ?_)
              go_roundw
              case rel => exact ⟨i + 1, f', by omega, by go_num, HO2.out, HPN.out, HU2.out, HS2.out⟩
              case measure => simp [intOf]; omega
            · have k1 : e.kind = 1 := hk12.resolve_right k2
              have b1 : (e.kind == 1) = true := by simp [k1]
              have b2 : (e.kind == 2) = false := by simp [k1]
              have HCG : Hid (∀ K, ownK l i K = ownK l (i + 1) K) := Lib.hid (ownK_read HE.out (by omega) (by omega) (by omega))
              go_wp2_with fail
              go_roundw
              case rel => exact ⟨i + 1, f, by omega, by go_num, HOW.out.congr HCG.out, HPN.out, HUW.out, HSW.out⟩
              case measure => simp [intOf]; omega
          | some b =>
            rw [hf] at hlk
            simp only [Option.map_some, Option.getD_some] at hlk
            have hmb := (HOW.out.2.2.1 e.key b hf).2
            have hln := fun ty => oneF_len hmb ty
            have hlw := oneF_look hmb e.tx
            clear hf hmb
            cases hown : ownK l i e.key with
            | none =>
              rw [hown] at hln hlw
              simp only [Option.toList_none, List.length_nil] at hln
              have hln : ∀ ty, _ = Result.ok (Value.int .i64 0) W := hln
              have HOWN := Lib.hid hown
              have HPN : Hid (∀ n, n < i + 1 → PassK l n) := Lib.hid fun n hn => by
                rcases (by omega : n < i ∨ n = i) with h1 | rfl
                · exact HP.out n h1
                · intro e' he' _
                  rw [HE.out] at he'
                  cases he'
                  exact .inl HOWN.out
              clear hown
              by_cases k2 : e.kind = 2
              · have b1 : (e.kind == 1) = false := by simp [k2]
                have b2 : (e.kind == 2) = true := by simp [k2]
                have HCG := Lib.hid (ownK_write HE.out k2)
                obtain ⟨X1, X2, hx1, hx2, ⟨f', hO2⟩, hu2⟩ := HOW.out.write (by have := HSW.out; omega) (by omega) e.key e.tx
                have HX2 := Lib.hid hx2
                have HO2 := Lib.hid (hO2.congr HCG.out)
                have HU2 := Lib.hid (HUW.out.trans (F := Nowhere) hu2 fun k hk h => by omega)
                have HS2 := Lib.hid (Nat.lt_of_lt_of_le HSW.out hu2.size)
                have cA := (HB.out.alloc (.map #[] 0)).cell
                clear hx2 hO2 hu2
                go_wp2_with (at_mapUpdate; refine wpList_update_run rfl _ _ _ _ rfl rfl rfl rfl HX2.out ?_)
                go_roundw
                case rel => exact ⟨i + 1, f', by omega, by go_num, HO2.out, HPN.out, HU2.out, HS2.out⟩
                case measure => simp [intOf]; omega
              · have k1 : e.kind = 1 := hk12.resolve_right k2
                have b1 : (e.kind == 1) = true := by simp [k1]
                have b2 : (e.kind == 2) = false := by simp [k1]
                have HCG : Hid (∀ K, ownK l i K = ownK l (i + 1) K) := Lib.hid (ownK_read HE.out (by omega) (by omega) (by omega))
                go_wp2_with fail
                go_roundw
                case rel => exact ⟨i + 1, f, by omega, by go_num, HOW.out.congr HCG.out, HPN.out, HUW.out, HSW.out⟩
                case measure => simp [intOf]; omega
            | some t =>
              rw [hown] at hln hlw
              simp only [Option.toList_some, List.length_singleton, Option.some.injEq] at hln hlw
              have hln : ∀ ty, _ = Result.ok (Value.int .i64 1) W := hln
              have HOWN := Lib.hid hown
              clear hown
              by_cases htx : t = e.tx
              · rw [decide_eq_true htx] at hlw
                have HPN : Hid (∀ n, n < i + 1 → PassK l n) := Lib.hid fun n hn => by
                  rcases (by omega : n < i ∨ n = i) with h1 | rfl
                  · exact HP.out n h1
                  · intro e' he' _
                    rw [HE.out] at he'
                    cases he'
                    exact .inr (by rw [HOWN.out, htx])
                clear htx
                by_cases k2 : e.kind = 2
                · have b1 : (e.kind == 1) = false := by simp [k2]
                  have b2 : (e.kind == 2) = true := by simp [k2]
                  have HCG := Lib.hid (ownK_write HE.out k2)
                  obtain ⟨X1, X2, hx1, hx2, ⟨f', hO2⟩, hu2⟩ := HOW.out.write (by have := HSW.out; omega) (by omega) e.key e.tx
                  have HX2 := Lib.hid hx2
                  have HO2 := Lib.hid (hO2.congr HCG.out)
                  have HU2 := Lib.hid (HUW.out.trans (F := Nowhere) hu2 fun k hk h => by omega)
                  have HS2 := Lib.hid (Nat.lt_of_lt_of_le HSW.out hu2.size)
                  have cA := (HB.out.alloc (.map #[] 0)).cell
                  clear hx2 hO2 hu2
                  go_wp2_with (at_mapUpdate; refine wpList_update_run rfl _ _ _ _ rfl rfl rfl rfl HX2.out ?_)
                  go_roundw
                  case rel => exact ⟨i + 1, f', by omega, by go_num, HO2.out, HPN.out, HU2.out, HS2.out⟩
                  case measure => simp [intOf]; omega
                · have k1 : e.kind = 1 := hk12.resolve_right k2
                  have b1 : (e.kind == 1) = true := by simp [k1]
                  have b2 : (e.kind == 2) = false := by simp [k1]
                  have HCG : Hid (∀ K, ownK l i K = ownK l (i + 1) K) := Lib.hid (ownK_read HE.out (by omega) (by omega) (by omega))
                  go_wp2_with fail
                  go_roundw
                  case rel => exact ⟨i + 1, f, by omega, by go_num, HOW.out.congr HCG.out, HPN.out, HUW.out, HSW.out⟩
                  case measure => simp [intOf]; omega
              · rw [decide_eq_false htx] at hlw
                by_cases k2 : e.kind = 2
                · have b1 : (e.kind == 1) = false := by simp [k2]
                  have b2 : (e.kind == 2) = true := by simp [k2]
                  have HNO : Hid (¬ StrictP l) := Lib.hid fun h => by
                    rcases HIFF.out.1 h i e HE.out hk12 with h1 | h1
                    · rw [HOWN.out] at h1; cases h1
                    · rw [HOWN.out] at h1; exact htx (Option.some.inj h1)
                  go_wp2_with fail
                  go_ret
                  exact ⟨⟨false, rfl, by simpa using HNO.out⟩, HUW.out⟩
                · have k1 : e.kind = 1 := hk12.resolve_right k2
                  have b1 : (e.kind == 1) = true := by simp [k1]
                  have b2 : (e.kind == 2) = false := by simp [k1]
                  have HNO : Hid (¬ StrictP l) := Lib.hid fun h => by
                    rcases HIFF.out.1 h i e HE.out hk12 with h1 | h1
                    · rw [HOWN.out] at h1; cases h1
                    · rw [HOWN.out] at h1; exact htx (Option.some.inj h1)
                  go_wp2_with fail
                  go_ret
                  exact ⟨⟨false, rfl, by simpa using HNO.out⟩, HUW.out⟩
        · have b1 : (e.kind == 1) = false := by simpa using fun h => hk12 (.inl h)
          have b2 : (e.kind == 2) = false := by simpa using fun h => hk12 (.inr h)
          have HPN : Hid (∀ n, n < i + 1 → PassK l n) := Lib.hid fun n hn => by
            rcases (by omega : n < i ∨ n = i) with h1 | rfl
            · exact HP.out n h1
            · intro e' he' hk
              rw [HE.out] at he'
              cases he'
              exact absurd hk hk12
          by_cases hk34 : e.kind = 3 ∨ e.kind = 4
          · by_cases k3 : e.kind = 3
            · have b3 : (e.kind == 3) = true := by simp [k3]
              obtain ⟨w3, cnt0, hrun0, hR0, hU0, hsz0⟩ := HOW.out.1.range (P := Try.prog) (t := 74) Try.underlying74
              have HRUN := Lib.hid hrun0
              have HR0 := Lib.hid hR0
              have HO3 := Lib.hid (HOW.out.upd hU0 id fun _ _ _ => id)
              have HB3 := Lib.hid (HB.out.upd hU0 id)
              have HU3 := Lib.hid (HUW.out.trans (F := Nowhere) hU0 fun _ _ => id)
              have HSZ := Lib.hid HUW.out.size
              clear hrun0 hR0 hU0 hsz0
              go_wp2_with (at_range; refine wpList_range_run rfl _ _ rfl rfl HRUN.out ?_)
              clear cB
              try go_frame
              go_loopw [8] (fun _ wr => ∃ (left : ByteArray → Prop) (cnt : Nat) (o : ByteArray → Option Int), RangeIs encB wr W.heap.size w.heap.size (fun K => (f K).map mapV) left cnt ∧ OpenAt (w.heap.size + 1) wr w.heap.size f o ∧ (∀ K, left K → o K = ownK l i K) ∧ (∀ K, ¬ left K → o K = cutO (ownK l i K) e.tx) ∧ Blk wr BX 41 e.arr ∧ Upd Nowhere w wr ∧ w.heap.size < wr.heap.size) (fun _ wr => wr.rangeLeft w.heap.size W.heap.size)
              case atStart => exact ⟨_, cnt0, _, HR0.out, HO3.out, fun _ _ => rfl, fun K hK => by
                have : f K = none := by
                  cases hf : f K with
                  | none => rfl
                  | some b => exact absurd (by rw [hf]; simp) hK
                rw [HOW.out.2.1 K this]
                rfl, HB3.out, HU3.out, by have := HU3.out.size; have := HSW.out; have := HR0.out.map.lt; omega⟩
              case round =>
                obtain ⟨left, cnt, o, hR, hO, hl1, hl2, hB, hu, hs⟩ := hrel
                have HR := Lib.hid hR
                have HOR := Lib.hid hO
                have HL1 := Lib.hid hl1
                have HL2 := Lib.hid hl2
                have HBR := Lib.hid hB
                have HUR := Lib.hid hu
                have HSR := Lib.hid hs
                clear hR hO hl1 hl2 hB hu hs
                go_wp2_with (at_next; refine wpList_next_is KB rfl _ rfl rfl HR.out ?_ ?_)
                · intro h0 hno
                  have HOC := Lib.hid (HOR.out.congr fun K => (HL2.out K (hno K)).trans (ownK_end HE.out hk34 K))
                  clear hno
                  go_wp2_with fail
                  go_roundw
                  case rel => exact ⟨i + 1, f, by omega, by go_num, HOC.out, HPN.out, HUR.out, HSR.out⟩
                  case measure => simp [intOf]; omega
                · intro K vx wn cnt1 b hfb hv hlx hR1 hlt1 hu1 hsz1 hen
                  subst hv
                  obtain ⟨ob, g1, g2, g3⟩ := HR.out.iterB
                  have hON := HOR.out.upd hu1 (fun h => HR.out.ne h.symm) fun K' b' hK' => iter_ne_map g1 g3 (HOR.out.2.2.1 K' b' hK').2
                  have hBN := HBR.out.upd hu1 (iter_ne_blk g1 g2 HBR.out)
                  obtain ⟨W2, hr2, hO2, hu2⟩ := hON.del (by omega) hfb e.tx
                  obtain ⟨hBb, hmb⟩ := hON.2.2.1 K b hfb
                  obtain ⟨ob', g1', g2', g3'⟩ := hR1.iterB
                  have cN := hBN.cell
                  have HRN := Lib.hid (hR1.upd hu2 (by omega) fun h => iter_ne_map g1' g3' hmb h.symm)
                  have HON := Lib.hid hO2
                  have HBN := Lib.hid (hBN.upd hu2 (map_ne_blk hmb hBN))
                  have HUN := Lib.hid ((HUR.out.trans (F := Nowhere) hu1 fun k hk h => by have := HSZ.out; omega).trans (F := Nowhere) hu2 fun k hk h => by omega)
                  have HSN := Lib.hid (Nat.lt_of_lt_of_le HSR.out (Nat.le_trans hu1.size hu2.size))
                  have HLT := Lib.hid hlt1
                  have HNL : Hid (∀ K', (left K' ∧ K' ≠ K) → (if K' = K then cutO (o K) e.tx else o K') = ownK l i K') := Lib.hid fun K' h => by rw [if_neg h.2]; exact HL1.out K' h.1
                  have HNM : Hid (∀ K', ¬ (left K' ∧ K' ≠ K) → (if K' = K then cutO (o K) e.tx else o K') = cutO (ownK l i K') e.tx) := Lib.hid fun K' h => by
                    by_cases e' : K' = K
                    · rw [if_pos e', HL1.out K hlx, e']
                    · rw [if_neg e']
                      exact HL2.out K' fun h' => h ⟨h', e'⟩
                  clear hlx hR1 hlt1 hu1 hsz1 hON hBN hO2 hu2 hBb hmb g1 g2 g3 g1' g2' g3' hfb
                  go_wp2_with fail
                  try go_frame
                  go_roundw
                  case rel => exact ⟨_, cnt1, _, HRN.out, HON.out, HNL.out, HNM.out, HBN.out, HUN.out, HSN.out⟩
                  case measure =>
                    rw [HRN.out.left_eq, HR.out.left_eq]
                    exact HLT.out
            · have b3 : (e.kind == 3) = false := by simpa using k3
              have b4 : (e.kind == 4) = true := by simpa using hk34.resolve_left k3
              obtain ⟨w3, cnt0, hrun0, hR0, hU0, hsz0⟩ := HOW.out.1.range (P := Try.prog) (t := 74) Try.underlying74
              have HRUN := Lib.hid hrun0
              have HR0 := Lib.hid hR0
              have HO3 := Lib.hid (HOW.out.upd hU0 id fun _ _ _ => id)
              have HB3 := Lib.hid (HB.out.upd hU0 id)
              have HU3 := Lib.hid (HUW.out.trans (F := Nowhere) hU0 fun _ _ => id)
              have HSZ := Lib.hid HUW.out.size
              clear hrun0 hR0 hU0 hsz0
              go_wp2_with (at_range; refine wpList_range_run rfl _ _ rfl rfl HRUN.out ?_)
              clear cB
              try go_frame
              go_loopw [8] (fun _ wr => ∃ (left : ByteArray → Prop) (cnt : Nat) (o : ByteArray → Option Int), RangeIs encB wr W.heap.size w.heap.size (fun K => (f K).map mapV) left cnt ∧ OpenAt (w.heap.size + 1) wr w.heap.size f o ∧ (∀ K, left K → o K = ownK l i K) ∧ (∀ K, ¬ left K → o K = cutO (ownK l i K) e.tx) ∧ Blk wr BX 41 e.arr ∧ Upd Nowhere w wr ∧ w.heap.size < wr.heap.size) (fun _ wr => wr.rangeLeft w.heap.size W.heap.size)
              case atStart => exact ⟨_, cnt0, _, HR0.out, HO3.out, fun _ _ => rfl, fun K hK => by
                have : f K = none := by
                  cases hf : f K with
                  | none => rfl
                  | some b => exact absurd (by rw [hf]; simp) hK
                rw [HOW.out.2.1 K this]
                rfl, HB3.out, HU3.out, by have := HU3.out.size; have := HSW.out; have := HR0.out.map.lt; omega⟩
              case round =>
                obtain ⟨left, cnt, o, hR, hO, hl1, hl2, hB, hu, hs⟩ := hrel
                have HR := Lib.hid hR
                have HOR := Lib.hid hO
                have HL1 := Lib.hid hl1
                have HL2 := Lib.hid hl2
                have HBR := Lib.hid hB
                have HUR := Lib.hid hu
                have HSR := Lib.hid hs
                clear hR hO hl1 hl2 hB hu hs
                go_wp2_with (at_next; refine wpList_next_is KB rfl _ rfl rfl HR.out ?_ ?_)
                · intro h0 hno
                  have HOC := Lib.hid (HOR.out.congr fun K => (HL2.out K (hno K)).trans (ownK_end HE.out hk34 K))
                  clear hno
                  go_wp2_with fail
                  go_roundw
                  case rel => exact ⟨i + 1, f, by omega, by go_num, HOC.out, HPN.out, HUR.out, HSR.out⟩
                  case measure => simp [intOf]; omega
                · intro K vx wn cnt1 b hfb hv hlx hR1 hlt1 hu1 hsz1 hen
                  subst hv
                  obtain ⟨ob, g1, g2, g3⟩ := HR.out.iterB
                  have hON := HOR.out.upd hu1 (fun h => HR.out.ne h.symm) fun K' b' hK' => iter_ne_map g1 g3 (HOR.out.2.2.1 K' b' hK').2
                  have hBN := HBR.out.upd hu1 (iter_ne_blk g1 g2 HBR.out)
                  obtain ⟨W2, hr2, hO2, hu2⟩ := hON.del (by omega) hfb e.tx
                  obtain ⟨hBb, hmb⟩ := hON.2.2.1 K b hfb
                  obtain ⟨ob', g1', g2', g3'⟩ := hR1.iterB
                  have cN := hBN.cell
                  have HRN := Lib.hid (hR1.upd hu2 (by omega) fun h => iter_ne_map g1' g3' hmb h.symm)
                  have HON := Lib.hid hO2
                  have HBN := Lib.hid (hBN.upd hu2 (map_ne_blk hmb hBN))
                  have HUN := Lib.hid ((HUR.out.trans (F := Nowhere) hu1 fun k hk h => by have := HSZ.out; omega).trans (F := Nowhere) hu2 fun k hk h => by omega)
                  have HSN := Lib.hid (Nat.lt_of_lt_of_le HSR.out (Nat.le_trans hu1.size hu2.size))
                  have HLT := Lib.hid hlt1
                  have HNL : Hid (∀ K', (left K' ∧ K' ≠ K) → (if K' = K then cutO (o K) e.tx else o K') = ownK l i K') := Lib.hid fun K' h => by rw [if_neg h.2]; exact HL1.out K' h.1
                  have HNM : Hid (∀ K', ¬ (left K' ∧ K' ≠ K) → (if K' = K then cutO (o K) e.tx else o K') = cutO (ownK l i K') e.tx) := Lib.hid fun K' h => by
                    by_cases e' : K' = K
                    · rw [if_pos e', HL1.out K hlx, e']
                    · rw [if_neg e']
                      exact HL2.out K' fun h' => h ⟨h', e'⟩
                  clear hlx hR1 hlt1 hu1 hsz1 hON hBN hO2 hu2 hBb hmb g1 g2 g3 g1' g2' g3' hfb
                  go_wp2_with fail
                  try go_frame
                  go_roundw
                  case rel => exact ⟨_, cnt1, _, HRN.out, HON.out, HNL.out, HNM.out, HBN.out, HUN.out, HSN.out⟩
                  case measure =>
                    rw [HRN.out.left_eq, HR.out.left_eq]
                    exact HLT.out
          · have b3 : (e.kind == 3) = false := by simpa using fun h => hk34 (.inl h)
            have b4 : (e.kind == 4) = false := by simpa using fun h => hk34 (.inr h)
            have HCG : Hid (∀ K, ownK l i K = ownK l (i + 1) K) := Lib.hid (ownK_read HE.out (fun h => hk12 (.inr h)) (fun h => hk34 (.inl h)) (fun h => hk34 (.inr h)))
            go_wp2_with fail
            go_roundw
            case rel => exact ⟨i + 1, f, by omega, by go_num, HOW.out.congr HCG.out, HPN.out, HUW.out, HSW.out⟩
            case measure => simp [intOf]; omega
    · have hii : ¬ (i : Int) < (l.length : Nat) := by omega
      have HF : Hid (StrictP l) := Lib.hid (HIFF.out.2 fun n => by
        rcases Nat.lt_or_ge n i with h1 | h1
        · exact HP.out n h1
        · intro e he
          have := (List.getElem?_eq_some_iff.1 he).1
          omega)
      go_wp2_with fail
      go_ret
      exact ⟨⟨true, rfl, by simpa using HF.out⟩, HU.out⟩
end Go.Proofs.Ytddknmgajacofaa
