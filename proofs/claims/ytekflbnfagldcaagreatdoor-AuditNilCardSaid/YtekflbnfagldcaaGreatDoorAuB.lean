/-
  AuditNil: what is called at the last look, on the heap that it keeps.
-/
import Derived.Test.YtekflbnfagldcaaGreatDoorAuA
namespace Go.Proofs.YtekflbnfagldcaaGreatDoor
open Go Ev Go.RowKit

theorem fact_eql {m n : Int} {b : Bool} (h : decide (m = n) = b) : ∀ op, cmpNo op = 5 → intBin op .i64 m n = some (.bool b) := by
  intro op ho
  cases op <;> simp only [cmpNo] at ho <;> first | cases ho | skip
  show some (Value.bool (ieq m n)) = _
  by_cases hh : m = n
  · rw [ieq_iff.2 hh, ← h]; simp [hh]
  · have h2 : ieq m n = false := by
      cases hi : ieq m n with
      | false => rfl
      | true => exact absurd (ieq_iff.1 hi) hh
    rw [h2, ← h]; simp [hh]
theorem fact_rem {m n k : Int} (h : m.tmod n = k) (hn : n ≠ 0) : ∀ op, cmpNo op = 10 → intBin op .i64 m n = some (.int .i64 k) := by
  intro op ho
  cases op <;> simp only [cmpNo] at ho <;> first | cases ho | skip
  have h2 : ieq n 0 = false := by
    cases hi : ieq n 0 with
    | false => rfl
    | true => exact absurd (ieq_iff.1 hi) hn
  show (bif ieq n 0 then none else some (Value.int .i64 (m.tmod n))) = _
  rw [h2, h]
  rfl
theorem facts_val {env : Nat → Value} {c : Nat} {x y : Value} {m n k : Int} {l : List (Nat × Value × Value × Value)} (hx : den env x = .int .i64 m) (hy : den env y = .int .i64 n) (h : ∀ op, cmpNo op = c → intBin op .i64 m n = some (.int .i64 k)) (hl : FactOK env l) : FactOK env ((c, x, y, nu k) :: l) := fun c' x' y' v' hmem => by
  simp only [List.mem_cons, Prod.mk.injEq] at hmem
  rcases hmem with ⟨rfl, rfl, rfl, rfl⟩ | hmem
  · exact ⟨m, n, hx, hy, trivial, fun _ h => (by cases h), h⟩
  · exact hl _ _ _ _ hmem

/-- The symbols: a shape's numbers and its sums; and others. -/
def auSyms (g p f : Int) (e : List Value) : List Value := [.int .i64 g, .int .i64 p, .int .i64 f, .int .i64 (2 + g), .int .i64 (2 * p), .int .i64 (2 + g + 2 * p), .int .i64 (2 + g + 2 * p - 1)] ++ e
theorem auSyms_env (g p f : Int) (e : List Value) : ∀ i, i < 7 → envOf (auSyms g p f e) i = envOf (auSyms g p f []) i := by
  intro i hi
  rcases (by omega : i = 0 ∨ i = 1 ∨ i = 2 ∨ i = 3 ∨ i = 4 ∨ i = 5 ∨ i = 6) with rfl | rfl | rfl | rfl | rfl | rfl | rfl <;> rfl
abbrev AuAt (g p f : Int) (base : List (Nat × AObj)) (n : Nat) (ρ : Ren) (w : World) : Prop := CoreAt T0 (envOf (auSyms g p f [])) 4 base n ρ w
theorem sec_facts {env : Nat → Value} {i : Nat} {s z : Int} (hs : den env (sy i) = .int .i64 s) (h5 : den env (sy 5) = .int .i64 z) (h2 : 2 ≤ s) (hz : s < z) {r : List (Nat × Value × Value × Value)} (hr : FactOK env r) : FactOK env (secFacts i r) := by
  have dn : ∀ n, den env (nu n) = .int .i64 n := fun _ => rfl
  exact facts_bool hs (dn _) (fact_lss (decide_eq_false (by omega))) <| facts_bool hs h5 (fact_geq (decide_eq_false (by omega))) <| facts_bool hs (dn _) (fact_eql (decide_eq_false (by omega))) <|
    facts_bool hs (dn _) (fact_eql (decide_eq_false (by omega))) <| facts_bool hs (dn _) (fact_eql (decide_eq_false (by omega))) hr
section
variable {g p f : Int} (hg0 : 64 ≤ g) (hg1 : g ≤ 1024) (hp0 : 1 ≤ p) (hp1 : p ≤ 64) {ρ : Ren} {w : World}
include hg0 hg1 hp0 hp1
theorem load_facts (k : Int) (hk0 : 0 ≤ k) (hk : k < p) : FactOK (envOf (auSyms g p f [.int .i64 k, .int .i64 (2 * k), .int .i64 (2 + g + 2 * k), .int .i64 (2 + g + 2 * k + 1)])) loadFacts := by
  generalize he : envOf (auSyms g p f [.int .i64 k, .int .i64 (2 * k), .int .i64 (2 + g + 2 * k), .int .i64 (2 + g + 2 * k + 1)]) = env
  have d3 : den env (sy 3) = .int .i64 (2 + g) := by rw [← he]; rfl
  have d5 : den env (sy 5) = .int .i64 (2 + g + 2 * p) := by rw [← he]; rfl
  have d7 : den env (sy 7) = .int .i64 k := by rw [← he]; rfl
  have d8 : den env (sy 8) = .int .i64 (2 * k) := by rw [← he]; rfl
  have d9 : den env (sy 9) = .int .i64 (2 + g + 2 * k) := by rw [← he]; rfl
  have d10 : den env (sy 10) = .int .i64 (2 + g + 2 * k + 1) := by rw [← he]; rfl
  have dn : ∀ n, den env (nu n) = .int .i64 n := fun _ => rfl
  exact facts_bool d3 (dn _) (fact_lss (decide_eq_false (by omega))) <| facts_bool d3 (dn _) (fact_gtr (decide_eq_false (by omega))) <| facts_bool d7 (dn _) (fact_lss (decide_eq_false (by omega))) <| facts_bool d7 (dn _) (fact_gtr (decide_eq_false (by omega))) <|
    facts_num (dn _) d7 d8 (fact_mul rfl (by omega) (by omega)) <| facts_num d3 d8 d9 (fact_add rfl (by omega) (by omega)) <| facts_num d9 (dn _) d9 (fact_add (by omega) (by omega) (by omega)) <| facts_num d9 (dn _) d10 (fact_add rfl (by omega) (by omega)) <|
    sec_facts d9 d5 (by omega) (by omega) (sec_facts d10 d5 (by omega) (by omega) facts_nil)
theorem load_ok (k : Nat) (hk : (k : Int) < p) (hw : AuAt g p f auB2 174 ρ w) {vd : Value} (hd : VR ρ (envOf (auSyms g p f [])) d1 vd) :
    Calls Tryz.prog 33 #[vd, .int .i64 (2 + g), .int .i64 k] w fun e w' => e = .returned (.tuple #[.agg #[.int .i64 0, .slice none 0 0], .int .i64 0, .int .i64 0]) ∧ AuAt g p f auB2 174 ρ w' ∧ Upd (InCore auB2 ρ) w w' := by
  have hd' : VR ρ (envOf (auSyms g p f [.int .i64 k, .int .i64 (2 * k), .int .i64 (2 + g + 2 * k), .int .i64 (2 + g + 2 * k + 1)])) d1 vd := by
    cases hd with
    | ptr e => exact .ptr e
  have hl : (auSyms g p f [.int .i64 k, .int .i64 (2 * k), .int .i64 (2 + g + 2 * k), .int .i64 (2 + g + 2 * k + 1)]).all symB = true := rfl
  exact core_call (v := .tuple ⟨[.agg ⟨[nu 0, .slice none 0 0]⟩, nu 0, nu 0]⟩) mix0 (cx0 hl) fns0 ext0 (fn := Tryz.f33) (by kernel_rfl) rfl run_load low2 self2 (by omega) (by omega) (by kernel_rfl) (auSyms_env g p f _) (load_facts hg0 hg1 hp0 hp1 k (by omega) hk) hw (.cons hd' (.cons (.sym 3) (.cons (.sym 7) .nil)))
theorem read_ok (s : Int) (h0 : 2 + g ≤ s) (h1 : s < 2 + g + 2 * p) (hw : AuAt g p f auB2 174 ρ w) {vd : Value} (hd : VR ρ (envOf (auSyms g p f [])) d1 vd) :
    Calls Tryz.prog 35 #[vd, .int .i64 s] w fun e w' => ∃ b o c', e = .returned (.tuple #[.slice (some ⟨b, o, none⟩) 256 c', .int .i64 0]) ∧ 256 ≤ c' ∧ (∀ j, j < 256 → w'.cell? ⟨b, o + j, none⟩ = some (.int .u8 0)) ∧ AuAt g p f auB2 174 ρ w' ∧ Upd (InCore auB2 ρ) w w' := by
  have hd' : VR ρ (envOf (auSyms g p f [.int .i64 0, .int .i64 0, .int .i64 s])) d1 vd := by
    cases hd with
    | ptr e => exact .ptr e
  have hl : (auSyms g p f [.int .i64 0, .int .i64 0, .int .i64 s]).all symB = true := rfl
  have hf : FactOK (envOf (auSyms g p f [.int .i64 0, .int .i64 0, .int .i64 s])) (secFacts 9 []) := sec_facts rfl rfl (by omega) h1 facts_nil
  refine Calls.mono (core_bytes (id := 175) (cs := u8s 256 0) (r := [nu 0]) mix0 (cx0 hl) fns0 ext0 (fn := Tryz.f35) (by kernel_rfl) rfl run_read low2 self2 (by omega) (by omega) (by kernel_rfl) (by kernel_rfl) (auSyms_env g p f _) hf hw (.cons hd' (.cons (.sym 9) .nil))) ?_
  rintro e w' ⟨b, o, c', he, hc, hcell, hw', hu⟩
  have hz : ∀ j, j < 256 → (u8s 256 0)[j]? = some (.int .u8 0) := by
    have : (u8s 256 0) = List.replicate 256 (.int .u8 0) := by kernel_rfl
    intro j hj
    rw [this, List.getElem?_replicate, if_pos hj]
  have hlen : (u8s 256 0).length = 256 := by kernel_rfl
  rw [hlen] at he hc
  exact ⟨b, o, c', he, hc, fun j hj => hcell j _ (hz j hj), hw', hu⟩
end
section
variable {g p f : Int} {ρ : Ren} {w : World}
theorem au_args {e : List Value} {vl : Value} {id : Nat} (h : VR ρ (envOf (auSyms g p f [])) (.pointer (some ⟨id, 0, none⟩)) vl) : VRs ρ (envOf (auSyms g p f e)) [.pointer (some ⟨id, 0, none⟩)] [vl] := by
  cases h with
  | ptr e => exact .cons (.ptr e) .nil
theorem inc_ok (hw : AuAt g p f auB2 174 ρ w) {vl : Value} (hl : VR ρ (envOf (auSyms g p f [])) (.pointer (some ⟨131, 0, none⟩)) vl) : Calls Tryz.prog 11 #[vl] w fun e w' => e = .returned (.int .i64 1) ∧ AuAt g p f auB2 174 ρ w' ∧ Upd (InCore auB2 ρ) w w' :=
  core_call (v := nu 1) mix0 (cx0 (l := auSyms g p f []) rfl) fns0 ext0 (fn := Tryz.f11) (by kernel_rfl) rfl run_inc low2 self2 (by omega) (by omega) (by kernel_rfl) (fun _ _ => rfl) facts_nil hw (au_args hl)
theorem first_ok (hw : AuAt g p f auB2 174 ρ w) {vl : Value} (hl : VR ρ (envOf (auSyms g p f [])) (.pointer (some ⟨131, 0, none⟩)) vl) : Calls Tryz.prog 12 #[vl] w fun e w' => e = .returned (.int .i64 1) ∧ AuAt g p f auB2 174 ρ w' ∧ Upd (InCore auB2 ρ) w w' :=
  core_call (v := nu 1) mix0 (cx0 (l := auSyms g p f []) rfl) fns0 ext0 (fn := Tryz.f12) (by kernel_rfl) rfl run_first low2 self2 (by omega) (by omega) (by kernel_rfl) (fun _ _ => rfl) facts_nil hw (au_args hl)
theorem last_ok (hw : AuAt g p f auB2 174 ρ w) {vl : Value} (hl : VR ρ (envOf (auSyms g p f [])) (.pointer (some ⟨131, 0, none⟩)) vl) : Calls Tryz.prog 13 #[vl] w fun e w' => e = .returned (.int .i64 0) ∧ AuAt g p f auB2 174 ρ w' ∧ Upd (InCore auB2 ρ) w w' :=
  core_call (v := nu 0) mix0 (cx0 (l := auSyms g p f []) rfl) fns0 ext0 (fn := Tryz.f13) (by kernel_rfl) rfl run_last low2 self2 (by omega) (by omega) (by kernel_rfl) (fun _ _ => rfl) facts_nil hw (au_args hl)
theorem check_ok (hw : AuAt g p f auB2 174 ρ w) {vl : Value} (hl : VR ρ (envOf (auSyms g p f [])) (.pointer (some ⟨131, 0, none⟩)) vl) : Calls Tryz.prog 14 #[vl] w fun e w' => e = .returned (.int .i64 0) ∧ AuAt g p f auB2 174 ρ w' ∧ Upd (InCore auB2 ρ) w w' :=
  core_call (v := nu 0) mix0 (cx0 (l := auSyms g p f []) rfl) fns0 ext0 (fn := Tryz.f14) (by kernel_rfl) rfl run_check low2 self2 (by omega) (by omega) (by kernel_rfl) (fun _ _ => rfl) facts_nil hw (au_args hl)
theorem copied_ok (hw : AuAt g p f auB0 100 ρ w) {vd : Value} (hl : VR ρ (envOf (auSyms g p f [])) (.pointer (some ⟨19, 0, none⟩)) vd) :
    Calls Tryz.prog 31 #[vd] w fun e w' => ∃ ρ' v', e = .returned v' ∧ VR ρ' (envOf (auSyms g p f [])) d1 v' ∧ Ren.le ρ ρ' ∧ AuAt g p f auB1 105 ρ' w' ∧ Upd (InCore auB0 ρ) w w' ∧ ∀ b, InCore auB1 ρ' b → InCore auB0 ρ b ∨ w.heap.size ≤ b :=
  core_step (v := d1) mix0 (cx0 (l := auSyms g p f []) rfl) fns0 ext0 (fn := Tryz.f31) (by kernel_rfl) rfl run_copied low0 low1 self0 (by omega) (by omega) (by omega) (by kernel_rfl) (fun _ _ => rfl) facts_nil hw (au_args hl)
theorem open_facts (hg0 : 64 ≤ g) (hg1 : g ≤ 1024) (hp0 : 1 ≤ p) (hp1 : p ≤ 64) : FactOK (envOf (auSyms g p f [])) openFacts := by
  generalize he : envOf (auSyms g p f []) = env
  have d0 : den env (sy 0) = .int .i64 g := by rw [← he]; rfl
  have d3 : den env (sy 3) = .int .i64 (2 + g) := by rw [← he]; rfl
  have d5 : den env (sy 5) = .int .i64 (2 + g + 2 * p) := by rw [← he]; rfl
  have dn : ∀ n, den env (nu n) = .int .i64 n := fun _ => rfl
  exact facts_bool (dn _) d0 (fact_lss (decide_eq_true (by omega))) <| facts_val (dn _) d0 (fact_rem (by simp) (by omega)) <| facts_bool d0 (dn _) (fact_lss (decide_eq_false (by omega))) <| facts_bool d0 (dn _) (fact_gtr (decide_eq_false (by omega))) <|
    facts_num (dn _) d0 d3 (fact_add rfl (by omega) (by omega)) <| facts_bool d5 d3 (fact_lss (decide_eq_false (by omega))) <| facts_bool (dn _) d5 (fact_geq (decide_eq_false (by omega))) <| facts_bool (dn _) d5 (fact_geq (decide_eq_false (by omega))) <|
    facts_bool (dn _) d5 (fact_geq (decide_eq_false (by omega))) facts_nil
theorem open_ok (hg0 : 64 ≤ g) (hg1 : g ≤ 1024) (hp0 : 1 ≤ p) (hp1 : p ≤ 64) (hw : AuAt g p f auB1 105 ρ w) {vd : Value} (hl : VR ρ (envOf (auSyms g p f [])) d1 vd) :
    Calls Tryz.prog 32 #[vd, .int .i64 g] w fun e w' => ∃ ρ' v', e = .returned v' ∧ VR ρ' (envOf (auSyms g p f [])) (.tuple ⟨[.pointer (some ⟨131, 0, none⟩), nu 0]⟩) v' ∧ Ren.le ρ ρ' ∧ AuAt g p f auB2 174 ρ' w' ∧ Upd (InCore auB1 ρ) w w' ∧ ∀ b, InCore auB2 ρ' b → InCore auB1 ρ b ∨ w.heap.size ≤ b :=
  core_step (v := .tuple ⟨[.pointer (some ⟨131, 0, none⟩), nu 0]⟩) mix0 (cx0 (l := auSyms g p f []) rfl) fns0 ext0 (fn := Tryz.f32) (by kernel_rfl) rfl run_open low1 low2 self1 (by omega) (by omega) (by omega) (by kernel_rfl) (fun _ _ => rfl) (open_facts hg0 hg1 hp0 hp1) hw (.cons hl (.cons (.sym 0) .nil))
theorem shape_facts (hg0 : 64 ≤ g) (hg1 : g ≤ 1024) (hp0 : 1 ≤ p) (hp1 : p ≤ 64) (hf0 : 1 ≤ f) (hf1 : f ≤ 64) : FactOK (envOf (auSyms g p f [])) shapeOk := by
  generalize he : envOf (auSyms g p f []) = env
  have d0 : den env (sy 0) = .int .i64 g := by rw [← he]; rfl
  have d1 : den env (sy 1) = .int .i64 p := by rw [← he]; rfl
  have d2 : den env (sy 2) = .int .i64 f := by rw [← he]; rfl
  have d3 : den env (sy 3) = .int .i64 (2 + g) := by rw [← he]; rfl
  have d4 : den env (sy 4) = .int .i64 (2 * p) := by rw [← he]; rfl
  have d5 : den env (sy 5) = .int .i64 (2 + g + 2 * p) := by rw [← he]; rfl
  have dn : ∀ n, den env (nu n) = .int .i64 n := fun _ => rfl
  exact facts_bool d0 (dn _) (fact_lss (decide_eq_false (by omega))) <| facts_bool d0 (dn _) (fact_gtr (decide_eq_false (by omega))) <| facts_bool d1 (dn _) (fact_lss (decide_eq_false (by omega))) <| facts_bool d1 (dn _) (fact_gtr (decide_eq_false (by omega))) <|
    facts_bool d2 (dn _) (fact_lss (decide_eq_false (by omega))) <| facts_bool d2 (dn _) (fact_gtr (decide_eq_false (by omega))) <| facts_num (dn _) d0 d3 (fact_add rfl (by omega) (by omega)) <| facts_num (dn _) d1 d4 (fact_mul rfl (by omega) (by omega)) <| facts_num d3 d4 d5 (fact_add rfl (by omega) (by omega)) facts_nil
theorem shapeCheck_ok (hg0 : 64 ≤ g) (hg1 : g ≤ 1024) (hp0 : 1 ≤ p) (hp1 : p ≤ 64) (hf0 : 1 ≤ f) (hf1 : f ≤ 64) (hw : AuAt g p f auB0 100 ρ w) :
    Calls Tryz.prog 29 #[.agg #[.int .i64 g, .int .i64 p, .int .i64 f]] w fun e w' => e = .returned (.int .i64 0) ∧ AuAt g p f auB0 100 ρ w' ∧ Upd (InCore auB0 ρ) w w' :=
  core_call (v := nu 0) mix0 (cx0 (l := auSyms g p f []) rfl) fns0 ext0 (fn := Tryz.f29) (by kernel_rfl) rfl run_shape low0 self0 (by omega) (by omega) (by kernel_rfl) (fun _ _ => rfl) (shape_facts hg0 hg1 hp0 hp1 hf0 hf1) hw (.cons (.agg (.cons (.sym 0) (.cons (.sym 1) (.cons (.sym 2) .nil)))) .nil)
theorem shapeSectors_ok (hg0 : 64 ≤ g) (hg1 : g ≤ 1024) (hp0 : 1 ≤ p) (hp1 : p ≤ 64) (hf0 : 1 ≤ f) (hf1 : f ≤ 64) (hw : AuAt g p f auB0 100 ρ w) :
    Calls Tryz.prog 25 #[.agg #[.int .i64 g, .int .i64 p, .int .i64 f]] w fun e w' => e = .returned (.int .i64 (2 + g + 2 * p)) ∧ AuAt g p f auB0 100 ρ w' ∧ Upd (InCore auB0 ρ) w w' :=
  (core_sym (v := sy 5) mix0 (cx0 (l := auSyms g p f []) rfl) fns0 ext0 (fn := Tryz.f25) (by kernel_rfl) rfl run_sectors low0 self0 (by omega) (by omega) (by kernel_rfl) (fun _ _ => rfl) (shape_facts hg0 hg1 hp0 hp1 hf0 hf1) hw (.cons (.agg (.cons (.sym 0) (.cons (.sym 1) (.cons (.sym 2) .nil)))) .nil)).mono
    fun e w' ⟨v', he, hv, h1, h2⟩ => ⟨by rw [he]; cases hv; rfl, h1, h2⟩
theorem diskSectors_ok (hw : AuAt g p f auB0 100 ρ w) {vd : Value} (hl : VR ρ (envOf (auSyms g p f [])) (.pointer (some ⟨19, 0, none⟩)) vd) :
    Calls Tryz.prog 30 #[vd] w fun e w' => e = .returned (.int .i64 (2 + g + 2 * p)) ∧ AuAt g p f auB0 100 ρ w' ∧ Upd (InCore auB0 ρ) w w' :=
  (core_sym (v := sy 5) mix0 (cx0 (l := auSyms g p f []) rfl) fns0 ext0 (fn := Tryz.f30) (by kernel_rfl) rfl run_dsectors low0 self0 (by omega) (by omega) (by kernel_rfl) (fun _ _ => rfl) facts_nil hw (au_args hl)).mono
    fun e w' ⟨v', he, hv, h1, h2⟩ => ⟨by rw [he]; cases hv; rfl, h1, h2⟩
end
end Go.Proofs.YtekflbnfagldcaaGreatDoor
