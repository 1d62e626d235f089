/-
  AuditNil: the keys of an empty map, sorted.
-/
import Derived.Test.YtekflbnfagldcaaGreatDoorAuE
import Derived.Test.YtekflbnfagldcaaGreatDoorCoreC
namespace Go.Proofs.YtekflbnfagldcaaGreatDoor
open Go Ev Go.RowKit

noncomputable def auM : List (Nat × AObj) := [(20, .map []), (21, .cells [.map (some 20)] 99 false)]
theorem run_sorted : coreRun auM (.slice none 0 0) (evCall T0 4 F0 X0 1000 100 (.fn 19 [.func (.func 69) #[] ⟨[.pointer (some ⟨21, 0, none⟩)]⟩]) (coreH auM 22 [])) = true := by kernel_rfl
theorem lowM : lowB 22 7 auM = true := by kernel_rfl
theorem selfM : baseOk (coreH auM 22 []) auM = true := by kernel_rfl
theorem keys_ok (mb : Nat) (w : World) : Calls Tryz.prog 41 #[.map (some mb)] w fun e w' => e = .returned (.func (.func 69) #[] #[.pointer (some ⟨w.heap.size, 0, none⟩)]) ∧ w' = w.alloc (.cells #[.map (some mb)] 99) := by
  go_enter Tryz.func41, Tryz.ntmps41
  go_wp2
  go_ret
  exact ⟨rfl, rfl⟩
/-- The names of an empty map, and of the box that holds it. -/
noncomputable def renM (ρ : Ren) (mb r : Nat) : Ren := fun id => if id = 20 then some ⟨mb, 0, 0⟩ else if id = 21 then some ⟨r, 0, 0⟩ else if id < 20 then ρ id else none
theorem mem_auM {id : Nat} {o : AObj} (h : (id, o) ∈ auM) : (id = 20 ∧ o = .map []) ∨ (id = 21 ∧ o = .cells [.map (some 20)] 99 false) := by
  simp only [auM, List.mem_cons, Prod.mk.injEq, List.not_mem_nil, or_false] at h
  exact h
theorem renM_core {g p f : Int} {ρ : Ren} {w : World} {base : List (Nat × AObj)} {n : Nat} (hw : AuAt g p f base n ρ w) {mb r : Nat} (hm : w.heap[mb]? = some (.map #[] 0)) (hr : Blk w r 99 #[.map (some mb)]) : AuAt g p f auM 22 (renM ρ mb r) w := by
  have hne : mb ≠ r := by
    rintro rfl
    unfold Blk at hr
    rw [hm] at hr
    cases hr
  have hfx : Fixed (renM ρ mb r) 4 := fun i hi => by
    obtain ⟨s, hs⟩ := hw.fx i hi
    refine ⟨s, ?_⟩
    unfold renM
    rw [if_neg (by omega), if_neg (by omega), if_pos (by omega)]
    exact hs
  refine ⟨⟨fun id o h => ?_, fun id id' o o' l l' h h' h1 h2 e e' hbk => ?_, fun z o m h hd => ?_, fun id o h => ?_⟩, hfx, fun id h => ?_⟩
  · rcases core_find h with ⟨rfl, rfl⟩ | hm'
    · obtain ⟨s, hs⟩ := hfx 3 (by omega)
      exact ⟨_, hs, fun _ _ _ _ h => by cases h⟩
    · rcases mem_auM hm' with ⟨rfl, rfl⟩ | ⟨rfl, rfl⟩
      · exact ⟨⟨mb, 0, 0⟩, rfl, #[], 0, hm, ⟨[], .nil, List.Perm.refl _⟩, trivial, (fun _ h => by cases h), List.Pairwise.nil⟩
      · exact ⟨⟨r, 0, 0⟩, rfl, [], [.map (some mb)], [], (0, 0), hr, rfl, .cons (.map (l := ⟨mb, 0, 0⟩) rfl) .nil, .inl rfl, fun h => by cases h⟩
  · rcases core_find h with ⟨rfl, rfl⟩ | hm1
    · cases h1
    · rcases core_find h' with ⟨rfl, rfl⟩ | hm2
      · cases h2
      · rcases mem_auM hm1 with ⟨rfl, rfl⟩ | ⟨rfl, rfl⟩ <;> rcases mem_auM hm2 with ⟨rfl, rfl⟩ | ⟨rfl, rfl⟩ <;> first | rfl | skip
        · cases e; cases e'; exact absurd hbk hne
        · cases e; cases e'; exact absurd hbk.symm hne
  · rcases core_find h with ⟨rfl, rfl⟩ | hm1
    · cases hd
    · rcases mem_auM hm1 with ⟨rfl, rfl⟩ | ⟨rfl, rfl⟩ <;> cases hd
  · rcases core_find h with ⟨rfl, rfl⟩ | hm1
    · unfold idMost; omega
    · rcases mem_auM hm1 with ⟨rfl, rfl⟩ | ⟨rfl, rfl⟩ <;> (unfold idMost; omega)
  · unfold renM
    rw [if_neg (by omega), if_neg (by omega), if_neg (by omega)]
theorem sorted_ok {g p f : Int} {ρ : Ren} {w : World} {base : List (Nat × AObj)} {n : Nat} (hw : AuAt g p f base n ρ w) {mb r : Nat} (hm : w.heap[mb]? = some (.map #[] 0)) (hr : Blk w r 99 #[.map (some mb)]) :
    Calls Tryz.prog 19 #[.func (.func 69) #[] #[.pointer (some ⟨r, 0, none⟩)]] w fun e w' => e = .returned (.slice none 0 0) ∧ Upd (fun k => k = mb ∨ k = r) w w' := by
  refine Calls.mono (core_call (v := .slice none 0 0) mix0 (cx0 (l := auSyms g p f []) rfl) fns0 ext0 (fn := Tryz.f19) (by kernel_rfl) rfl run_sorted lowM selfM (by omega) (by omega) (by kernel_rfl) (fun _ _ => rfl) facts_nil (renM_core hw hm hr)
    (.cons (.func _ .nil (.cons (.ptr (b := 21) (l := ⟨r, 0, 0⟩) rfl) .nil)) .nil)) ?_
  rintro e w' ⟨rfl, _, hu⟩
  refine ⟨rfl, hu.mono ?_⟩
  rintro k _ ⟨id, l, ⟨o, hm'⟩, e, rfl⟩
  rcases mem_auM hm' with ⟨rfl, rfl⟩ | ⟨rfl, rfl⟩
  · cases e; exact .inl rfl
  · cases e; exact .inr rfl
end Go.Proofs.YtekflbnfagldcaaGreatDoor
