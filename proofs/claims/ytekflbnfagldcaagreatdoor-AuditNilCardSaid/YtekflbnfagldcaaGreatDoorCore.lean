/-
  A heap that many calls leave as it is: what a call sees of it, and what is true behind it.
-/
import Derived.Test.YtekflbnfagldcaaGreatDoorEvM5
namespace Go.Proofs.YtekflbnfagldcaaGreatDoor.Ev
open Go

/-- A renaming up to a number. -/
noncomputable def cutR (n : Nat) (ρ : Ren) : Ren := fun id => if id < n then ρ id else none
/-- Has a value names below a number alone, and symbols below another one? -/
noncomputable def lowV (n ns : Nat) : Nat → Value → Bool
  | 0, _ => false
  | d + 1, v => match v with
    | .bool _ => true
    | .int _ _ => true
    | .string _ => true
    | .float .f32 i => Nat.blt i ns
    | .pointer none => true
    | .pointer (some ⟨b, _, none⟩) => Nat.blt b n
    | .slice none _ _ => true
    | .slice (some ⟨b, _, none⟩) _ _ => Nat.blt b n
    | .map none => true
    | .map (some r) => Nat.blt r n
    | .nilFunc => true
    | .nilIface => true
    | .agg cs => cs.toList.all (lowV n ns d)
    | .tuple cs => cs.toList.all (lowV n ns d)
    | _ => false
noncomputable def lowO (n ns : Nat) : AObj → Bool
  | .cells cs _ _ => cs.all (lowV n ns 4)
  | .fixed cs => cs.all (lowV n ns 4)
  | .map es => es.all fun p => lowV n ns 4 p.1 && lowV n ns 4 p.2
  | _ => false
noncomputable def lowB (n ns : Nat) (base : List (Nat × AObj)) : Bool := base.all fun p => Nat.blt p.1 n && (!Nat.beq p.1 3 && lowO n ns p.2)

section
variable {P : Program} {T : TT TypeInfo} {env env' : Nat → Value} {G : Nat} {ρ ρ' : Ren} {w w' : World} {n ns : Nat}
theorem blt_lt {a b : Nat} (h : Nat.blt a b = true) : a < b := by simpa [Nat.blt_eq] using h
theorem cutR_lt {id : Nat} (h : id < n) : cutR n ρ id = ρ id := if_pos h
theorem low_vr (henv : ∀ i, i < ns → env' i = env i) {v v' : Value} : ∀ {d : Nat}, lowV n ns d v = true → VR ρ env v v' → VR (cutR n ρ) env' v v' := by
  intro d
  induction d generalizing v v' with
  | zero => intro h; simp [lowV] at h
  | succ d ih =>
    intro h hv
    have lst : ∀ {l l' : List Value}, l.all (lowV n ns d) = true → VRs ρ env l l' → VRs (cutR n ρ) env' l l' := by
      intro l
      induction l with
      | nil => intro l' _ h; cases h; exact .nil
      | cons x l ih' =>
        intro l' h hv
        simp only [List.all_cons, Bool.and_eq_true] at h
        cases hv with
        | cons h1 h2 => exact .cons (ih h.1 h1) (ih' h.2 h2)
    cases hv with
    | bool b => exact .bool b
    | int k n => exact .int k n
    | string s => exact .string s
    | sym i =>
      have hi : i < ns := blt_lt h
      rw [← henv i hi]
      exact .sym i
    | pnil => exact .pnil
    | ptr e => exact .ptr ((cutR_lt (blt_lt h)).trans e)
    | snil n c => exact .snil n c
    | sl k e c => exact .sl k ((cutR_lt (blt_lt h)).trans e) c
    | slo k e c => exact .slo k ((cutR_lt (blt_lt h)).trans e) c
    | mnil => exact .mnil
    | map e => exact .map ((cutR_lt (blt_lt h)).trans e)
    | nilFunc => exact .nilFunc
    | nilIface => exact .nilIface
    | agg hl => exact .agg (lst h hl)
    | tuple hl => exact .tuple (lst h hl)
    | _ => simp [lowV] at h
theorem low_vrs (henv : ∀ i, i < ns → env' i = env i) {d : Nat} : ∀ {l l' : List Value}, l.all (lowV n ns d) = true → VRs ρ env l l' → VRs (cutR n ρ) env' l l' := by
  intro l
  induction l with
  | nil => intro l' _ h; cases h; exact .nil
  | cons x l ih' =>
    intro l' h hv
    simp only [List.all_cons, Bool.and_eq_true] at h
    cases hv with
    | cons h1 h2 => exact .cons (low_vr henv h.1 h1) (ih' h.2 h2)
theorem low_ers (henv : ∀ i, i < ns → env' i = env i) : ∀ {l : List (Value × Value)} {L : List MapEntry}, (l.all fun p => lowV n ns 4 p.1 && lowV n ns 4 p.2) = true → ERs ρ env l L → ERs (cutR n ρ) env' l L := by
  intro l
  induction l with
  | nil => intro L _ h; cases h; exact .nil
  | cons x l ih =>
    intro L h he
    simp only [List.all_cons, Bool.and_eq_true] at h
    cases he with
    | cons h1 h2 h3 => exact .cons (low_vr henv h.1.1 h1) (low_vr henv h.1.2 h2) (ih h.2 h3)
theorem low_obj (henv : ∀ i, i < ns → env' i = env i) {o : AObj} {l : Loc} (h : lowO n ns o = true) (hO : ObjOK T ρ env w o l) : ObjOK T (cutR n ρ) env' w o l := by
  cases o with
  | cells cs e opn =>
    obtain ⟨pre, cs', sp, fz, h1, h2, h3, h4, h5⟩ := hO
    exact ⟨pre, cs', sp, fz, h1, h2, low_vrs henv h h3, h4, h5⟩
  | fixed cs =>
    obtain ⟨pre, cs', sp, e, fz, h1, h2, h3, h4⟩ := hO
    exact ⟨pre, cs', sp, e, fz, h1, h2, low_vrs henv h h3, h4⟩
  | map es =>
    obtain ⟨es', clock, h1, ⟨L, h2, h2'⟩, h3, h4, h5⟩ := hO
    exact ⟨es', clock, h1, ⟨L, low_ers henv h h2, h2'⟩, h3, h4, h5⟩
  | _ => simp [lowO] at h

/-- A heap that calls leave as it is, with what is known of symbols. -/
noncomputable def coreH (base : List (Nat × AObj)) (n : Nat) (fl : List (Nat × Value × Value × Value)) : HS := ⟨baseH ((3, .facts fl) :: base) .leaf, n, []⟩
theorem low_mem {base : List (Nat × AObj)} (h : lowB n ns base = true) {id : Nat} {o : AObj} (hm : (id, o) ∈ base) : id < n ∧ id ≠ 3 ∧ lowO n ns o = true := by
  have := List.all_eq_true.1 h _ hm
  simp only [Bool.and_eq_true, Bool.not_eq_true'] at this
  exact ⟨blt_lt this.1, fun e => (by have h2 := this.2.1; rw [e] at h2; cases h2), this.2.2⟩
theorem low_dep {o : AObj} (h : lowO n ns o = true) : o.dep = none := by
  cases o <;> first | rfl | simp [lowO] at h
/-- What a heap's part says in another one's stead: with other symbols, other facts, and no names from a number on. -/
theorem Match.core {H : HS} (hM : Match T env ρ H w) {base : List (Nat × AObj)} {fl : List (Nat × Value × Value × Value)} (hb : baseOk H base = true) (hlow : lowB n ns base = true) (henv : ∀ i, i < ns → env' i = env i) (hfl : FactOK env' fl) (h3 : ∃ l, ρ 3 = some l) (hn : 3 < n) :
    Match T env' (cutR n ρ) (coreH base n fl) w := by
  have hin : ∀ id o, (coreH base n fl).h.find id = some o → (id = 3 ∧ o = .facts fl) ∨ (id ≠ 3 ∧ (id, o) ∈ base ∧ H.h.find id = some o) := fun id o h => by
    rcases baseH_find ((3, AObj.facts fl) :: base) .leaf id o h with h | h
    · rcases List.mem_cons.1 h with h | h
      · simp only [Prod.mk.injEq] at h; exact .inl h
      · exact .inr ⟨(low_mem hlow h).2.1, h, baseOk_mem hb id o h⟩
    · rw [leaf_find] at h; cases h
  refine ⟨fun id o h => ?_, fun id id' o o' l l' h h' h1 h2 e e' hbk => ?_, fun z o m h hd => ?_, fun id o h => ?_⟩
  · rcases hin id o h with ⟨rfl, rfl⟩ | ⟨_, hm, hf⟩
    · obtain ⟨l, hl⟩ := h3
      exact ⟨l, (cutR_lt hn).trans hl, hfl⟩
    · obtain ⟨h1, _, h2⟩ := low_mem hlow hm
      obtain ⟨l, hl, hO⟩ := hM.obj id o hf
      exact ⟨l, (cutR_lt h1).trans hl, low_obj henv h2 hO⟩
  · rcases hin id o h with ⟨rfl, rfl⟩ | ⟨_, hm, hf⟩
    · cases h1
    · rcases hin id' o' h' with ⟨rfl, rfl⟩ | ⟨_, hm', hf'⟩
      · cases h2
      · rw [cutR_lt (low_mem hlow hm).1] at e
        rw [cutR_lt (low_mem hlow hm').1] at e'
        exact hM.inj id id' o o' l l' hf hf' h1 h2 e e' hbk
  · rcases hin z o h with ⟨rfl, rfl⟩ | ⟨_, hm, hf⟩
    · cases hd
    · rw [low_dep (low_mem hlow hm).2.2] at hd; cases hd
  · rcases hin id o h with ⟨rfl, rfl⟩ | ⟨_, hm, hf⟩
    · unfold idMost; omega
    · exact hM.small id o hf
theorem cutR_back {H : HS} {H' : HS} (hP : Post T env ρ H w ρ' H' w') (hf : Fresh ρ H.n) : cutR H.n ρ' = ρ := by
  funext id
  unfold cutR
  split
  · rename_i h; exact hP.ext id (.inl h)
  · rename_i h; exact (hf id (by omega)).symm

/-- Does a call give this, and leave the heap as it is? -/
noncomputable def coreRun (base : List (Nat × AObj)) (v : Value) : Option (List (Value × HS)) → Bool
  | some l => l.all fun p => veq vDepth p.1 v && baseOk p.2 base
  | none => false
/-- The world holds the heap. -/
structure CoreAt (T : TT TypeInfo) (env : Nat → Value) (G : Nat) (base : List (Nat × AObj)) (n : Nat) (ρ : Ren) (w : World) : Prop where
  ok : Match T env ρ (coreH base n []) w
  fx : Fixed ρ G
  fresh : Fresh ρ n
/-- A call that was run, in a world that holds the heap: it gives what it gave, and the heap is as it was. -/
theorem core_call {base : List (Nat × AObj)} {fl : List (Nat × Value × Value × Value)} {f fuel k : Nat} {fn : Func} {c : Code} {args args' : List Value} {v : Value} {fns : TT Func} {X : List (Nat × XK)}
    (hmix : P.follows .mixedOrders = true) (hC : Cx P T env' G) (hF : Fns P G fns) (hX : ExtOK P T env' G X) (hf : fns.find f = some fn) (hb : fn.body = some c)
    (hrun : coreRun base v (evCall T G fns X fuel k (.fn f args) (coreH base n fl)) = true) (hlow : lowB n ns base = true) (hself : baseOk (coreH base n []) base = true) (hn : 3 < n) (hG : 3 < G) (hv : closedB 4 v = true)
    (henv : ∀ i, i < ns → env' i = env i) (hfl : FactOK env' fl) (hw : CoreAt T env G base n ρ w) (hargs : VRs ρ env' args args') :
    Calls P f ⟨args'⟩ w fun e w' => e = .returned v ∧ CoreAt T env G base n ρ w' ∧ Upd (fun b => ∃ id l, (∃ o, (id, o) ∈ base) ∧ ρ id = some l ∧ l.blk = b) w w' := by
  have hcut : cutR n ρ = ρ := by
    funext id
    unfold cutR
    split
    · rfl
    · rename_i h; exact (hw.fresh id (by omega)).symm
  obtain ⟨l3, h3⟩ := hw.fx 3 hG
  have hM : Match T env' ρ (coreH base n fl) w := by
    have := hw.ok.core (env' := env') (fl := fl) hself hlow henv hfl ⟨_, h3⟩ hn
    rw [hcut] at this
    exact this
  unfold coreRun at hrun
  split at hrun
  rotate_left
  · cases hrun
  rename_i l hl
  refine Calls.mono (ev_calls hmix hC hF hX hf hb hl hM hw.fx hw.fresh hargs) ?_
  rintro e w' ⟨v1, rfl, p, hp, ρ', hv1, hP⟩
  have hpp := List.all_eq_true.1 hrun p hp
  simp only [Bool.and_eq_true] at hpp
  obtain ⟨hpv, hpb⟩ := hpp
  have e1 := veq_eq _ _ _ hpv
  rw [e1] at hv1
  obtain rfl := closed_eq hv hv1
  refine ⟨rfl, ⟨?_, hw.fx, hw.fresh⟩, ?_⟩
  · have h3' : ∃ l, ρ' 3 = some l := ⟨_, hP.le 3 _ h3⟩
    have := hP.ok.core (env' := env) (n := n) (fl := []) hpb hlow (fun i hi => (henv i hi).symm) (fun _ _ _ _ h => by cases h) h3' hn
    have hb' : cutR n ρ' = ρ := cutR_back (H := coreH base n fl) hP hw.fresh
    rw [hb'] at this
    exact this
  · refine hP.upd.mono fun k hk hL => ?_
    obtain ⟨id, o, lc, h1, h2, h4, h5⟩ := hL
    rcases baseH_find ((3, AObj.facts fl) :: base) .leaf id o h1 with h | h
    · rcases List.mem_cons.1 h with h | h
      · simp only [Prod.mk.injEq] at h
        rw [h.2] at h2
        cases h2
      · exact ⟨id, lc, ⟨o, h⟩, h4, h5⟩
    · rw [leaf_find] at h; cases h
end
end Go.Proofs.YtekflbnfagldcaaGreatDoor.Ev
