/-
  An evaluator of Go code on closed data, proved sound: part 2 of 5 (merged by merge.py).
-/
import Derived.Test.YtddknmgajacofaaEvM1
import Derived.Test.YtddknmgajacofaaLib
import Derived.ChangeKeysEq
/-
  An evaluator of Go code on closed data: what its values and heaps stand for.
-/
namespace Go.Proofs.Ytddknmgajacofaa.Ev
open Go

/-- Where a block lies: its number, the place of its first cell, and how many elements have room behind. -/
structure Loc where
  blk : Nat
  base : Nat
  spare : Nat

abbrev Ren := Nat → Option Loc
noncomputable def Ren.le (ρ ρ' : Ren) : Prop := ∀ id l, ρ id = some l → ρ' id = some l
theorem Ren.le.refl (ρ : Ren) : Ren.le ρ ρ := fun _ _ h => h
theorem Ren.le.trans {a b c : Ren} (h : Ren.le a b) (h' : Ren.le b c) : Ren.le a c := fun id l e => h' id l (h id l e)

mutual
/-- What a value stands for. -/
inductive VR (ρ : Ren) (env : Nat → Value) : Value → Value → Prop
  | bool (b : Bool) : VR ρ env (.bool b) (.bool b)
  | int (k : IntKind) (n : Int) : VR ρ env (.int k n) (.int k n)
  | sym (i : Nat) : VR ρ env (.float .f32 i) (env i)
  | stamp {z : Nat} {l : Loc} : ρ z = some l → VR ρ env (.complex .f32 z 0) (.int .i64 l.base)
  | string (s : ByteArray) : VR ρ env (.string s) (.string s)
  | pnil : VR ρ env (.pointer none) (.pointer none)
  | ptr {b o : Nat} {l : Loc} : ρ b = some l → VR ρ env (.pointer (some ⟨b, o, none⟩)) (.pointer (some ⟨l.blk, l.base + o, none⟩))
  | snil (n c : Nat) : VR ρ env (.slice none n c) (.slice none n c)
  | sl {b o : Nat} {l : Loc} (n : Nat) {c : Nat} : ρ b = some l → c < OPEN → VR ρ env (.slice (some ⟨b, o, none⟩) n c) (.slice (some ⟨l.blk, l.base + o, none⟩) n c)
  | slo {b o : Nat} {l : Loc} (n : Nat) {c c' : Nat} : ρ b = some l → c = OPEN + c' → VR ρ env (.slice (some ⟨b, o, none⟩) n c) (.slice (some ⟨l.blk, l.base + o, none⟩) n (c' + l.spare))
  | mnil : VR ρ env (.map none) (.map none)
  | map {r : Nat} {l : Loc} : ρ r = some l → VR ρ env (.map (some r)) (.map (some l.blk))
  | cnil : VR ρ env (.chan none) (.chan none)
  | chan {r : Nat} {l : Loc} : ρ r = some l → VR ρ env (.chan (some r)) (.chan (some l.blk))
  | func (f : Nat) {a b a' b' : List Value} : VRs ρ env a a' → VRs ρ env b b' → VR ρ env (.func (.func f) ⟨a⟩ ⟨b⟩) (.func (.func f) ⟨a'⟩ ⟨b'⟩)
  | yield {r : Nat} {l : Loc} : ρ r = some l → VR ρ env (.func (.yield r) #[] #[]) (.func (.yield l.blk) #[] #[])
  | nilFunc : VR ρ env .nilFunc .nilFunc
  | nilIface : VR ρ env .nilIface .nilIface
  | iface (t : TypeId) {v v' : Value} : VR ρ env v v' → VR ρ env (.iface t v) (.iface t v')
  | agg {a a' : List Value} : VRs ρ env a a' → VR ρ env (.agg ⟨a⟩) (.agg ⟨a'⟩)
  | tuple {a a' : List Value} : VRs ρ env a a' → VR ρ env (.tuple ⟨a⟩) (.tuple ⟨a'⟩)
inductive VRs (ρ : Ren) (env : Nat → Value) : List Value → List Value → Prop
  | nil : VRs ρ env [] []
  | cons {v v' : Value} {l l' : List Value} : VR ρ env v v' → VRs ρ env l l' → VRs ρ env (v :: l) (v' :: l')
end

section
variable {ρ ρ' : Ren} {env : Nat → Value}
mutual
theorem VR.mono (h : Ren.le ρ ρ') {v v' : Value} : VR ρ env v v' → VR ρ' env v v'
  | .bool b => .bool b
  | .int k n => .int k n
  | .sym i => .sym i
  | .stamp e => .stamp (h _ _ e)
  | .string s => .string s
  | .pnil => .pnil
  | .ptr e => .ptr (h _ _ e)
  | .snil n c => .snil n c
  | .sl n e c => .sl n (h _ _ e) c
  | .slo n e c => .slo n (h _ _ e) c
  | .mnil => .mnil
  | .map e => .map (h _ _ e)
  | .cnil => .cnil
  | .chan e => .chan (h _ _ e)
  | .func f a b => .func f (VRs.mono h a) (VRs.mono h b)
  | .yield e => .yield (h _ _ e)
  | .nilFunc => .nilFunc
  | .nilIface => .nilIface
  | .iface t a => .iface t (VR.mono h a)
  | .agg a => .agg (VRs.mono h a)
  | .tuple a => .tuple (VRs.mono h a)
theorem VRs.mono (h : Ren.le ρ ρ') {l l' : List Value} : VRs ρ env l l' → VRs ρ' env l l'
  | .nil => .nil
  | .cons a b => .cons (VR.mono h a) (VRs.mono h b)
end

theorem VRs.length {l l' : List Value} (h : VRs ρ env l l') : l.length = l'.length := by
  induction l generalizing l' with
  | nil => cases h; rfl
  | cons v l ih => cases h with | cons _ h => simp [ih h]
theorem VRs.append {a a' b b' : List Value} (h : VRs ρ env a a') (h' : VRs ρ env b b') : VRs ρ env (a ++ b) (a' ++ b') := by
  induction a generalizing a' with
  | nil => cases h; exact h'
  | cons v l ih => cases h with | cons h1 h2 => exact .cons h1 (ih h2)
theorem VRs.get {l l' : List Value} (h : VRs ρ env l l') {i : Nat} {v : Value} (hv : l[i]? = some v) : ∃ v', l'[i]? = some v' ∧ VR ρ env v v' := by
  induction l generalizing l' i with
  | nil => simp at hv
  | cons x l ih =>
    cases h with
    | cons h1 h2 =>
      cases i with
      | zero => simp at hv; subst hv; exact ⟨_, rfl, h1⟩
      | succ i => exact ih h2 (by simpa using hv)
theorem VRs.drop {l l' : List Value} (h : VRs ρ env l l') (n : Nat) : VRs ρ env (l.drop n) (l'.drop n) := by
  induction n generalizing l l' with
  | zero => exact h
  | succ n ih => cases h with
    | nil => exact .nil
    | cons _ h => exact ih h
theorem VRs.take {l l' : List Value} (h : VRs ρ env l l') (n : Nat) : VRs ρ env (l.take n) (l'.take n) := by
  induction n generalizing l l' with
  | zero => exact .nil
  | succ n ih => cases h with
    | nil => exact .nil
    | cons h1 h => exact .cons h1 (ih h)
end

/-! ### the small functions as core's -/
theorem nth_eq {α : Type} (n : Nat) (l : List α) : nth n l = l[n]? := by
  induction l generalizing n with
  | nil => cases n <;> rfl
  | cons x l ih => cases n <;> simp [nth, ih]
theorem lenL_eq {α : Type} (l : List α) : lenL l = l.length := by
  induction l with
  | nil => rfl
  | cons x l ih => simp [lenL, ih]
theorem dropN_eq {α : Type} (n : Nat) (l : List α) : dropN n l = l.drop n := by
  induction n generalizing l with
  | zero => rfl
  | succ n ih => cases l <;> simp [dropN, ih]
theorem takeN_some {α : Type} {n : Nat} {l r : List α} (h : takeN n l = some r) : r = l.take n ∧ n ≤ l.length := by
  induction n generalizing l r with
  | zero => simp [takeN] at h; simp [← h]
  | succ n ih =>
    cases l with
    | nil => simp [takeN] at h
    | cons x l =>
      simp only [takeN] at h
      cases hn : takeN n l with
      | none => simp [hn] at h
      | some r' =>
        simp [hn] at h
        obtain ⟨rfl, hl⟩ := ih hn
        exact ⟨by simp [← h], by simpa using hl⟩
theorem overF_some {vs l r : List Value} (h : overF vs l = some r) : r = vs ++ l.drop vs.length ∧ vs.length ≤ l.length := by
  induction vs generalizing l r with
  | nil => simp [overF] at h; simp [h]
  | cons v vs ih =>
    cases l with
    | nil => simp [overF] at h
    | cons x l =>
      simp only [overF] at h
      cases hn : overF vs l with
      | none => simp [hn] at h
      | some r' =>
        simp [hn] at h
        obtain ⟨rfl, hl⟩ := ih hn
        exact ⟨by simp [← h], by simpa using hl⟩
theorem over_some {n : Nat} {vs l r : List Value} (h : over n vs l = some r) : r = l.take n ++ vs ++ l.drop (n + vs.length) ∧ n + vs.length ≤ l.length := by
  induction n generalizing l r with
  | zero => obtain ⟨rfl, hl⟩ := overF_some h; exact ⟨by simp, by simpa using hl⟩
  | succ n ih =>
    cases l with
    | nil => simp [over] at h
    | cons x l =>
      simp only [over] at h
      cases hn : over n vs l with
      | none => simp [hn] at h
      | some r' =>
        simp [hn] at h
        obtain ⟨rfl, hl⟩ := ih hn
        refine ⟨?_, by simp; omega⟩
        rw [← h, show n + 1 + vs.length = (n + vs.length) + 1 by omega]
        simp
theorem setN_eq (n : Nat) (v : Value) (l : List Value) : setN n v l = l.set n v := by
  induction l generalizing n with
  | nil => cases n <;> rfl
  | cons x l ih => cases n <;> simp [setN, ih]
theorem repN_eq {α : Type} (n : Nat) (x : α) : repN n x = List.replicate n x := by
  induction n with
  | zero => rfl
  | succ n ih => simp [repN, ih, List.replicate_succ]

/-! ### blocks -/
/-- What a frame stands for. -/
noncomputable def FrOK (ρ : Ren) (env : Nat → Value) (F : Fr) (tmps : Array Value) : Prop := ∀ t, VR ρ env (orUndef (F.find t)) (tmps.getD t undef)
/-- Two numbers in one. -/
noncomputable def pairN (a b : Nat) : Nat := (a + b) * (a + b) + a
theorem pairN_lt {a b c d : Nat} (h : a + b < c + d) : pairN a b < pairN c d := by
  have h1 : (a + b + 1) * (a + b + 1) ≤ (c + d) * (c + d) := Nat.mul_le_mul h h
  have h2 : (a + b + 1) * (a + b + 1) = (a + b) * (a + b) + (a + b) + (a + b) + 1 := by
    rw [Nat.add_mul, Nat.mul_add]
    omega
  unfold pairN
  omega
theorem pairN_inj {a b c d : Nat} (h : pairN a b = pairN c d) : a = c ∧ b = d := by
  rcases Nat.lt_trichotomy (a + b) (c + d) with g | g | g
  · have := pairN_lt g
    omega
  · unfold pairN at h
    rw [g] at h
    omega
  · have := pairN_lt g
    omega
noncomputable def tagN (e : TypeId) (fz : Nat × Nat) : Nat := pairN e (pairN fz.1 fz.2)
theorem tagN_inj {e e' : TypeId} {fz fz' : Nat × Nat} (h : tagN e fz = tagN e' fz') : e = e' ∧ fz = fz' := by
  obtain ⟨h1, h2⟩ := pairN_inj h
  obtain ⟨h3, h4⟩ := pairN_inj h2
  exact ⟨h1, Prod.ext h3 h4⟩
section
variable (T : TT TypeInfo) (ρ : Ren) (env : Nat → Value)
/-- Entries of a map, in some order. -/
inductive ERs : List (Value × Value) → List MapEntry → Prop
  | nil : ERs [] []
  | cons {k v : Value} {e : MapEntry} {l : List (Value × Value)} {l' : List MapEntry} : VR ρ env k e.key → VR ρ env v e.val → ERs l l' → ERs ((k, v) :: l) (e :: l')
noncomputable def Distinct : List (Value × Value) → Prop
  | [] => True
  | (k, _) :: l => (∀ p ∈ l, sameKey k p.1 = some false) ∧ Distinct l
structure MapOK (es : List (Value × Value)) (es' : Array MapEntry) (clock : Nat) : Prop where
  some_ : ∃ L, ERs ρ env es L ∧ L.Perm es'.toList
  apart : Distinct es
  born : ∀ e ∈ es'.toList, e.born < clock
  once : es'.toList.Pairwise fun a b => a.born ≠ b.born

/-- What is known of symbols is true. -/
def den (v : Value) : Value := match v with
  | .float .f32 i => env i
  | v => v
def resAtom : Value → Prop
  | .float .f32 _ => True
  | .bool _ => True
  | .int _ _ => True
  | _ => False
def FactOK (l : List (Nat × Value × Value × Value)) : Prop := ∀ c x y v, (c, x, y, v) ∈ l → ∃ m n, den env x = .int .i64 m ∧ den env y = .int .i64 n ∧ resAtom v ∧ (∀ i, v = .float .f32 i → ∃ k, env i = .int .i64 k) ∧ ∀ op, cmpNo op = c → intBin op .i64 m n = some (den env v)
noncomputable def ObjOK (w : World) (o : AObj) (l : Loc) : Prop :=
  match o with
  | .cells cs e opn => ∃ (pre cs' sp : List Value) (fz : Nat × Nat), w.heap[l.blk]? = some (.cells ⟨pre ++ cs' ++ sp⟩ e fz) ∧ pre.length = l.base ∧ VRs ρ env cs cs' ∧
      (fz = (0, 0) ∨ fz = (pre.length + cs'.length + sp.length, pre.length + cs'.length + sp.length + 1)) ∧ (opn = true → ∃ s, szOf T e = some s ∧ sp.length = l.spare * s)
  | .map es => ∃ es' clock, w.heap[l.blk]? = some (.map es' clock) ∧ MapOK ρ env es es' clock
  | .iter none _ _ => l.base = 0 ∧ ∃ a b c, w.heap[l.blk]? = some (.mapIter none a b c)
  | .iter (some m) left cur => l.base = 0 ∧ ∃ lm es' clock seen, ρ m = some lm ∧ w.heap[lm.blk]? = some (.map es' clock) ∧ w.heap[l.blk]? = some (.mapIter (some lm.blk) clock seen clock) ∧
      (∃ L, ERs ρ env left L ∧ L.Perm (es'.toList.filter fun e => !seen.contains e.born)) ∧ ∀ k v, cur = some (k, v) → ∃ e ∈ es'.toList, seen.back? = some e.born ∧ VR ρ env k e.key ∧ VR ρ env v e.val
  | .stamp m k => ∃ lm es' clock, ρ m = some lm ∧ w.heap[lm.blk]? = some (.map es' clock) ∧ ∃ e ∈ es'.toList, VR ρ env k e.key ∧ e.born = l.base
  | .chan cap buf => ∃ buf' s r, w.heap[l.blk]? = some (.chan cap ⟨buf'⟩ false s r false) ∧ VRs ρ env buf buf'
  | .loop state pending sz F params assign body => l.base = 0 ∧ ∃ F' d fn, w.heap[l.blk]? = some (.loop ⟨state, pending, fn, F', ⟨params⟩, assign, body, d⟩) ∧ FrOK ρ env F F' ∧ F'.size = sz
  | .dfrd => w.heap[l.blk]? = some (.deferred (some []))
  | .fixed cs => ∃ (pre cs' sp : List Value) (e : TypeId) (fz : Nat × Nat), w.heap[l.blk]? = some (.cells ⟨pre ++ cs' ++ sp⟩ e fz) ∧ pre.length = l.base ∧ VRs ρ env cs cs' ∧ sp = [] ∧ l.spare = tagN e fz
  | .facts l => FactOK env l
end
end Go.Proofs.Ytddknmgajacofaa.Ev

/-
  An evaluator of Go code on closed data: heaps that stand for worlds, and how both go on.
-/
namespace Go.Proofs.Ytddknmgajacofaa.Ev
open Go

noncomputable def AObj.dep : AObj → Option Nat
  | .iter (some m) _ _ => some m
  | .stamp m _ => some m
  | _ => none
noncomputable def AObj.owns : AObj → Bool
  | .stamp _ _ => false
  | .facts _ => false
  | _ => true

section
variable {T : TT TypeInfo} {ρ ρ' : Ren} {env : Nat → Value} {w w' : World}
theorem ERs.mono (h : Ren.le ρ ρ') {l : List (Value × Value)} {L : List MapEntry} (hh : ERs ρ env l L) : ERs ρ' env l L := by
  induction hh with
  | nil => exact .nil
  | cons a b _ ih => exact .cons (a.mono h) (b.mono h) ih
theorem MapOK.mono (h : Ren.le ρ ρ') {es : List (Value × Value)} {es' : Array MapEntry} {c : Nat} (hh : MapOK ρ env es es' c) : MapOK ρ' env es es' c := by
  obtain ⟨⟨L, h1, h2⟩, h3, h4, h5⟩ := hh
  exact ⟨⟨L, h1.mono h, h2⟩, h3, h4, h5⟩
theorem FrOK.mono (h : Ren.le ρ ρ') {F : Fr} {tmps : Array Value} (hh : FrOK ρ env F tmps) : FrOK ρ' env F tmps := fun t => (hh t).mono h
theorem ObjOK.mono (h : Ren.le ρ ρ') {o : AObj} {l : Loc} (hh : ObjOK T ρ env w o l) : ObjOK T ρ' env w o l := by
  cases o with
  | cells cs e opn => obtain ⟨p, c, s, fz, h1, h2, h3, h4⟩ := hh; exact ⟨p, c, s, fz, h1, h2, h3.mono h, h4⟩
  | map es => obtain ⟨es', c, h1, h2⟩ := hh; exact ⟨es', c, h1, h2.mono h⟩
  | iter m left cur =>
    cases m with
    | none => exact hh
    | some m =>
      obtain ⟨hb, lm, es', c, seen, h1, h2, h3, ⟨L, h4, h5⟩, h6⟩ := hh
      exact ⟨hb, lm, es', c, seen, h _ _ h1, h2, h3, ⟨L, h4.mono h, h5⟩, fun k v hc => let ⟨e, he, hs, hk, hv⟩ := h6 k v hc; ⟨e, he, hs, hk.mono h, hv.mono h⟩⟩
  | stamp m k => obtain ⟨lm, es', c, h1, h2, e, h3, h4, h5⟩ := hh; exact ⟨lm, es', c, h _ _ h1, h2, e, h3, h4.mono h, h5⟩
  | chan cap buf => obtain ⟨b, s, r, h1, h2⟩ := hh; exact ⟨b, s, r, h1, h2.mono h⟩
  | loop st pe fn F ps a b => obtain ⟨hb, F', d, f, h1, h2, h3⟩ := hh; exact ⟨hb, F', d, f, h1, h2.mono h, h3⟩
  | dfrd => exact hh
  | fixed cs => obtain ⟨p, c, s, e, fz, h1, h2, h3, h4⟩ := hh; exact ⟨p, c, s, e, fz, h1, h2, h3.mono h, h4⟩
  | facts l => exact hh
theorem ObjOK.frame {o : AObj} {l : Loc} (hh : ObjOK T ρ env w o l) (h1 : o.owns = true → w'.heap[l.blk]? = w.heap[l.blk]?)
    (h2 : ∀ m lm, o.dep = some m → ρ m = some lm → w'.heap[lm.blk]? = w.heap[lm.blk]?) : ObjOK T ρ env w' o l := by
  cases o with
  | cells cs e opn => obtain ⟨p, c, s, fz, h, hr⟩ := hh; exact ⟨p, c, s, fz, (h1 rfl).trans h, hr⟩
  | map es => obtain ⟨es', c, h, hr⟩ := hh; exact ⟨es', c, (h1 rfl).trans h, hr⟩
  | iter m left cur =>
    cases m with
    | none => obtain ⟨hb, a, b, c, h⟩ := hh; exact ⟨hb, a, b, c, (h1 rfl).trans h⟩
    | some m => obtain ⟨hb, lm, es', c, seen, e1, e2, e3, hr⟩ := hh; exact ⟨hb, lm, es', c, seen, e1, (h2 m lm rfl e1).trans e2, (h1 rfl).trans e3, hr⟩
  | stamp m k => obtain ⟨lm, es', c, e1, e2, hr⟩ := hh; exact ⟨lm, es', c, e1, (h2 m lm rfl e1).trans e2, hr⟩
  | chan cap buf => obtain ⟨b, s, r, h, hr⟩ := hh; exact ⟨b, s, r, (h1 rfl).trans h, hr⟩
  | loop st pe fn F ps a b => obtain ⟨hb, F', d, f, h, hr⟩ := hh; exact ⟨hb, F', d, f, (h1 rfl).trans h, hr⟩
  | dfrd => exact (h1 rfl).trans hh
  | fixed cs => obtain ⟨p, c, s, e, fz, h, hr⟩ := hh; exact ⟨p, c, s, e, fz, (h1 rfl).trans h, hr⟩
  | facts l => exact hh
theorem ObjOK.lt {o : AObj} {l : Loc} (hh : ObjOK T ρ env w o l) (ho : o.owns = true) : l.blk < w.heap.size := by
  cases o with
  | cells cs e opn => obtain ⟨p, c, s, fz, h, hr⟩ := hh; exact lt_of_heap h
  | map es => obtain ⟨es', c, h, hr⟩ := hh; exact lt_of_heap h
  | iter m left cur =>
    cases m with
    | none => obtain ⟨hb, a, b, c, h⟩ := hh; exact lt_of_heap h
    | some m => obtain ⟨hb, lm, es', c, seen, e1, e2, e3, hr⟩ := hh; exact lt_of_heap e3
  | stamp m k => simp [AObj.owns] at ho
  | chan cap buf => obtain ⟨b, s, r, h, hr⟩ := hh; exact lt_of_heap h
  | loop st pe fn F ps a b => obtain ⟨hb, F', d, f, h, hr⟩ := hh; exact lt_of_heap h
  | dfrd => exact lt_of_heap hh
  | fixed cs => obtain ⟨p, c, s, e, fz, h, hr⟩ := hh; exact lt_of_heap h
  | facts l => simp [AObj.owns] at ho
end

variable (T : TT TypeInfo) (env : Nat → Value)

structure Match (ρ : Ren) (H : HS) (w : World) : Prop where
  obj : ∀ id o, H.h.find id = some o → ∃ l, ρ id = some l ∧ ObjOK T ρ env w o l
  inj : ∀ id id' o o' l l', H.h.find id = some o → H.h.find id' = some o' → o.owns = true → o'.owns = true → ρ id = some l → ρ id' = some l' → l.blk = l'.blk → id = id'
  its : ∀ z o m, H.h.find z = some o → o.dep = some m → (z, m) ∈ H.its ∧ ∃ es, H.h.find m = some (.map es)
  small : ∀ id o, H.h.find id = some o → id < idMost

/-- The blocks that a heap speaks of. -/
noncomputable def Live (ρ : Ren) (H : HS) (k : Nat) : Prop := ∃ id o l, H.h.find id = some o ∧ o.owns = true ∧ ρ id = some l ∧ l.blk = k

noncomputable def Free (ρ : Ren) (a b : Nat) : Prop := ∀ id, a ≤ id → id < b → ρ id = none

structure Post (ρ : Ren) (H : HS) (w : World) (ρ' : Ren) (H' : HS) (w' : World) : Prop where
  ext : ∀ id, id < H.n ∨ H'.n ≤ id → ρ' id = ρ id
  le : Ren.le ρ ρ'
  n : H.n ≤ H'.n
  ok : Match T env ρ' H' w'
  upd : Upd (Live ρ H) w w'
  fp : ∀ k, Live ρ' H' k → Live ρ H k ∨ w.heap.size ≤ k

variable {T env}
variable {ρ ρ₁ ρ₂ : Ren} {H H₁ H₂ : HS} {w w₁ w₂ : World}

theorem Match.live_lt (hM : Match T env ρ H w) {k : Nat} (h : Live ρ H k) : k < w.heap.size := by
  obtain ⟨id, o, l, h1, h2, h3, rfl⟩ := h
  obtain ⟨l', h4, h5⟩ := hM.obj id o h1
  rw [h3] at h4
  obtain rfl : l = l' := by simpa using h4
  exact h5.lt h2

theorem Post.refl (hM : Match T env ρ H w) : Post T env ρ H w ρ H w :=
  ⟨fun _ _ => rfl, Ren.le.refl ρ, Nat.le_refl _, hM, Upd.refl _ w, fun _ h => .inl h⟩

theorem Post.trans (h : Post T env ρ H w ρ₁ H₁ w₁) (h' : Post T env ρ₁ H₁ w₁ ρ₂ H₂ w₂) : Post T env ρ H w ρ₂ H₂ w₂ := by
  refine ⟨fun id hid => ?_, h.le.trans h'.le, Nat.le_trans h.n h'.n, h'.ok, h.upd.trans h'.upd fun k hk hl => ?_, fun k hk => ?_⟩
  · have := h.n; have := h'.n
    rw [h'.ext id (by omega), h.ext id (by omega)]
  · exact (h.fp k hl).resolve_right (by omega)
  · rcases h'.fp k hk with h1 | h1
    · exact h.fp k h1
    · have := h.upd.size
      exact .inr (by omega)

theorem Free.after (hf : Free ρ H.n H₂.n) (h : Post T env ρ H w ρ₁ H₁ w₁) : Free ρ₁ H₁.n H₂.n := fun id h1 h2 => by
  have := h.n
  rw [h.ext id (.inr h1)]
  exact hf id (by omega) h2
theorem Free.mono {a b c d : Nat} (h : Free ρ a b) (h1 : a ≤ c) (h2 : d ≤ b) : Free ρ c d := fun id x y => h id (by omega) (by omega)

/-- The world has drawn. -/
theorem Match.drew (hM : Match T env ρ H w) : Match T env ρ H { w with drawn := w.drawn + 1 } :=
  ⟨fun id o h => let ⟨l, h1, h2⟩ := hM.obj id o h; ⟨l, h1, h2.frame (fun _ => rfl) fun _ _ _ _ => rfl⟩, hM.inj, hM.its, hM.small⟩
theorem Post.drew (hM : Match T env ρ H w) : Post T env ρ H w ρ H { w with drawn := w.drawn + 1 } :=
  ⟨fun _ _ => rfl, Ren.le.refl ρ, Nat.le_refl _, hM.drew, (Upd.refl _ w).drew, fun _ h => .inl h⟩

theorem find_lt {id : Nat} (h : id < idMost) : id + 1 < 2 ^ 40 := by unfold idMost at h; omega

noncomputable def bind (ρ : Ren) (n : Nat) (l : Loc) : Ren := fun id => if id = n then some l else ρ id
theorem bind_self (ρ : Ren) (n : Nat) (l : Loc) : bind ρ n l n = some l := by simp [bind]
theorem bind_ne (ρ : Ren) {n id : Nat} (l : Loc) (h : id ≠ n) : bind ρ n l id = ρ id := by simp [bind, h]
theorem bind_le {n : Nat} (l : Loc) (h : ρ n = none) : Ren.le ρ (bind ρ n l) := fun id l' e => by
  unfold bind
  split
  · rename_i hh; subst hh; rw [h] at e; cases e
  · exact e

/-- A block is made. -/
theorem Post.new {ob : AObj} (hM : Match T env ρ H w) (hn : newO H ob = some H₁) (hf : ρ H.n = none) (hd : ob.dep = none) (l : Loc) (hl : w.heap.size ≤ l.blk) (hw : Upd Nowhere w w₁)
    (hob : ObjOK T (bind ρ H.n l) env w₁ ob l) : Post T env ρ H w (bind ρ H.n l) H₁ w₁ := by
  have hle := bind_le l hf
  simp only [newO, cond_eq] at hn
  split at hn
  rotate_left
  · cases hn
  rename_i hlt
  have hlt' : H.n < idMost := by have : H.n + 1 ≤ idMost := (by simpa [Nat.blt] using hlt); exact this
  obtain rfl : { H with h := TT.set 40 H.h H.n (some ob), n := H.n + 1 } = H₁ := by simpa using hn
  have hnew : (TT.set 40 H.h H.n (some ob)).find H.n = some ob := TT.find_set 40 _ _ _ (find_lt hlt')
  have hold : ∀ id, id ≠ H.n → (TT.set 40 H.h H.n (some ob)).find id = H.h.find id := fun id h => TT.find_set_ne 40 _ _ _ _ (Ne.symm h)
  have hnone : ∀ o, H.h.find H.n ≠ some o := fun o h => by obtain ⟨l, e, _⟩ := hM.obj _ o h; rw [hf] at e; cases e
  have olds : ∀ id o l', H.h.find id = some o → ρ id = some l' → ObjOK T (bind ρ H.n l) env w₁ o l' := by
    intro id o l' h e
    obtain ⟨l'', e', hO⟩ := hM.obj id o h
    rw [e] at e'
    obtain rfl : l' = l'' := by simpa using e'
    refine (hO.frame (w' := w₁) (fun hown => hw.block _ (hO.lt hown) fun h => h.elim) fun m lm hdep hlm => ?_).mono hle
    obtain ⟨_, es, hes⟩ := hM.its id o m h hdep
    obtain ⟨l3, e3, hO3⟩ := hM.obj m _ hes
    rw [hlm] at e3
    obtain rfl : lm = l3 := by simpa using e3
    exact hw.block _ (hO3.lt rfl) fun h => h.elim
  refine ⟨fun id hid => bind_ne ρ l (by simp at hid; omega), hle, by simp, ⟨?_, ?_, ?_, ?_⟩, hw.mono fun _ _ h => h.elim, ?_⟩
  · intro id o h
    by_cases hid : id = H.n
    · subst hid
      rw [hnew] at h
      obtain rfl : ob = o := by simpa using h
      exact ⟨l, bind_self ρ _ l, hob⟩
    · rw [hold id hid] at h
      obtain ⟨l', e, _⟩ := hM.obj id o h
      exact ⟨l', by rw [bind_ne ρ l hid]; exact e, olds id o l' h e⟩
  · intro id id' o o' la lb h h' ho1 ho2 e e' hb
    by_cases hid : id = H.n <;> by_cases hid' : id' = H.n
    · rw [hid, hid']
    · subst hid
      rw [bind_self] at e
      obtain rfl : l = la := by simpa using e
      rw [hold id' hid'] at h'
      rw [bind_ne ρ l hid'] at e'
      have := hM.live_lt ⟨id', o', lb, h', ho2, e', rfl⟩
      omega
    · subst hid'
      rw [bind_self] at e'
      obtain rfl : l = lb := by simpa using e'
      rw [hold id hid] at h
      rw [bind_ne ρ l hid] at e
      have := hM.live_lt ⟨id, o, la, h, ho1, e, rfl⟩
      omega
    · rw [hold id hid] at h
      rw [hold id' hid'] at h'
      rw [bind_ne ρ l hid] at e
      rw [bind_ne ρ l hid'] at e'
      exact hM.inj id id' o o' la lb h h' ho1 ho2 e e' hb
  · intro z o m h hdep
    by_cases hid : z = H.n
    · subst hid
      rw [hnew] at h
      obtain rfl : ob = o := by simpa using h
      rw [hd] at hdep; cases hdep
    · rw [hold z hid] at h
      obtain ⟨h1, es, h2⟩ := hM.its z o m h hdep
      exact ⟨h1, es, by rw [hold m (fun e => hnone _ (e ▸ h2))]; exact h2⟩
  · intro id o h
    by_cases hid : id = H.n
    · omega
    · rw [hold id hid] at h
      exact hM.small id o h
  · rintro k ⟨id, o, l', h, hown, e, rfl⟩
    by_cases hid : id = H.n
    · subst hid
      rw [bind_self] at e
      obtain rfl : l = l' := by simpa using e
      exact .inr hl
    · rw [hold id hid] at h
      rw [bind_ne ρ l hid] at e
      exact .inl ⟨id, o, l', h, hown, e, rfl⟩

/-- The world changes in one block that the heap speaks of; nothing else hangs on it. -/
theorem Post.set {id : Nat} {o o' : AObj} {l : Loc} (hM : Match T env ρ H w) (h : H.h.find id = some o) (e : ρ id = some l) (ho : o.owns = true)
    (hu : Upd (· = l.blk) w w₁) (hob : ObjOK T ρ env w₁ o' l) (hdep : ∀ m, o'.dep = some m → o.dep = some m) (hmap : (∃ es, o = .map es) → ∀ z oz, H.h.find z = some oz → oz.dep ≠ some id) :
    Post T env ρ H w ρ (putO H id (some o')) w₁ := by
  have hid : id < idMost := hM.small id o h
  have hnew : (TT.set 40 H.h id (some o')).find id = some o' := TT.find_set 40 _ _ _ (find_lt hid)
  have hold : ∀ j, j ≠ id → (TT.set 40 H.h id (some o')).find j = H.h.find j := fun j h => TT.find_set_ne 40 _ _ _ _ (Ne.symm h)
  have hnodep : ∀ z oz, H.h.find z = some oz → oz.dep ≠ some id := by
    intro z oz hz hd
    obtain ⟨_, es, hes⟩ := hM.its z oz id hz hd
    rw [h] at hes
    exact hmap ⟨es, by simpa using hes⟩ z oz hz hd
  have olds : ∀ j oj lj, j ≠ id → H.h.find j = some oj → ρ j = some lj → ObjOK T ρ env w₁ oj lj := by
    intro j oj lj hj hf ej
    obtain ⟨l'', e', hO⟩ := hM.obj j oj hf
    rw [ej] at e'
    obtain rfl : lj = l'' := by simpa using e'
    refine hO.frame (fun hown => hu.block _ (hO.lt hown) fun hb => hj (hM.inj j id oj o lj l hf h hown ho ej e hb)) fun m lm hd hlm => ?_
    obtain ⟨_, es, hes⟩ := hM.its j oj m hf hd
    obtain ⟨l3, e3, hO3⟩ := hM.obj m _ hes
    rw [hlm] at e3
    obtain rfl : lm = l3 := by simpa using e3
    have hm : m ≠ id := fun hh => hnodep j oj hf (hh ▸ hd)
    exact hu.block _ (hO3.lt rfl) fun hb => hm (hM.inj m id _ o lm l hes h rfl ho hlm e hb)
  have hl : Live ρ H l.blk := ⟨id, o, l, h, ho, e, rfl⟩
  refine ⟨fun _ _ => rfl, Ren.le.refl ρ, Nat.le_refl _, ⟨?_, ?_, ?_, ?_⟩, hu.mono fun k _ hk => hk ▸ hl, ?_⟩
  · intro j oj hj
    by_cases hji : j = id
    · subst hji
      simp only [putO] at hj
      rw [hnew] at hj
      obtain rfl : o' = oj := by simpa using hj
      exact ⟨l, e, hob⟩
    · simp only [putO] at hj
      rw [hold j hji] at hj
      obtain ⟨lj, ej, _⟩ := hM.obj j oj hj
      exact ⟨lj, ej, olds j oj lj hji hj ej⟩
  · intro j j' oj oj' lj lj' hj hj' h1 h2 ej ej' hb
    have conv : ∀ j oj, (putO H id (some o')).h.find j = some oj → oj.owns = true → ∃ ok, H.h.find j = some ok ∧ ok.owns = true := by
      intro j oj hj hown
      by_cases hji : j = id
      · exact ⟨o, hji ▸ h, ho⟩
      · simp only [putO] at hj
        rw [hold j hji] at hj
        exact ⟨oj, hj, hown⟩
    obtain ⟨a, ha, ha'⟩ := conv j oj hj h1
    obtain ⟨b, hb1, hb'⟩ := conv j' oj' hj' h2
    exact hM.inj j j' a b lj lj' ha hb1 ha' hb' ej ej' hb
  · intro z oz m hz hd
    have hm : m ≠ id ∨ m = id := (Decidable.em (m = id)).symm
    by_cases hzi : z = id
    · subst hzi
      simp only [putO] at hz
      rw [hnew] at hz
      obtain rfl : o' = oz := by simpa using hz
      have hd' := hdep m hd
      obtain ⟨h1, es, h2⟩ := hM.its z o m h hd'
      refine ⟨h1, es, ?_⟩
      simp only [putO]
      rw [hold m fun hh => hnodep z o h (hh ▸ hd')]
      exact h2
    · simp only [putO] at hz
      rw [hold z hzi] at hz
      obtain ⟨h1, es, h2⟩ := hM.its z oz m hz hd
      refine ⟨h1, es, ?_⟩
      simp only [putO]
      rw [hold m fun hh => hnodep z oz hz (hh ▸ hd)]
      exact h2
  · intro j oj hj
    by_cases hji : j = id
    · exact hji ▸ hid
    · simp only [putO] at hj
      rw [hold j hji] at hj
      exact hM.small j oj hj
  · rintro k ⟨j, oj, lj, hj, hown, ej, rfl⟩
    by_cases hji : j = id
    · subst hji
      exact .inl ⟨j, o, lj, h, ho, ej, rfl⟩
    · simp only [putO] at hj
      rw [hold j hji] at hj
      exact .inl ⟨j, oj, lj, hj, hown, ej, rfl⟩

/-- A part of a heap. -/
theorem Match.sub (hM : Match T env ρ H w) {h' : TT AObj} {n' : Nat} {its' : List (Nat × Nat)} (hs : ∀ id o, h'.find id = some o → H.h.find id = some o)
    (hi : ∀ z o m, h'.find z = some o → o.dep = some m → (z, m) ∈ its' ∧ ∃ es, h'.find m = some (.map es)) : Match T env ρ ⟨h', n', its'⟩ w :=
  ⟨fun id o h => hM.obj id o (hs id o h), fun id id' o o' l l' h1 h2 => hM.inj id id' o o' l l' (hs _ _ h1) (hs _ _ h2), hi, fun id o h => hM.small id o (hs id o h)⟩
theorem Post.sub (hM : Match T env ρ H w) {h' : TT AObj} {its' : List (Nat × Nat)} (hs : ∀ id o, h'.find id = some o → H.h.find id = some o)
    (hi : ∀ z o m, h'.find z = some o → o.dep = some m → (z, m) ∈ its' ∧ ∃ es, h'.find m = some (.map es)) : Post T env ρ H w ρ ⟨h', H.n, its'⟩ w :=
  ⟨fun _ _ => rfl, Ren.le.refl ρ, Nat.le_refl _, hM.sub hs hi, Upd.refl _ w, fun _ ⟨id, o, l, h, r⟩ => .inl ⟨id, o, l, hs id o h, r⟩⟩
end Go.Proofs.Ytddknmgajacofaa.Ev

/-
  An evaluator of Go code on closed data: reading and writing memory.
-/
namespace Go.Proofs.Ytddknmgajacofaa.Ev
open Go

/-- The program's tables, as the evaluator has them. -/
structure Tabs (P : Program) (T : TT TypeInfo) : Prop where
  ty : ∀ t i, T.find t = some i → P.info? t = some i
  held : ∀ t i, T.find t = some i → P.stoodInHeld t = false

noncomputable def setBlk (w : World) (b : Nat) (o : Obj) : World := { w with heap := w.heap.setIfInBounds b o }
theorem setBlk_self {w : World} {b : Nat} (o : Obj) (h : b < w.heap.size) : (setBlk w b o).heap[b]? = some o := by
  simp [setBlk, h]
theorem setBlk_upd (w : World) (b : Nat) (o : Obj) : Upd (· = b) w (setBlk w b o) :=
  ⟨rfl, rfl, rfl, by simp [setBlk], fun k _ hn => by simp only [setBlk]; rw [Array.getElem?_setIfInBounds_ne (fun e => hn e.symm)]⟩
theorem setBlk_twice (w : World) (b : Nat) (o o' : Obj) : setBlk (setBlk w b o) b o' = setBlk w b o' := by
  simp [setBlk]
theorem setBlk_same {w : World} {b : Nat} {o : Obj} (h : w.heap[b]? = some o) : setBlk w b o = w := by
  unfold setBlk
  have : w.heap.setIfInBounds b o = w.heap := by
    apply Array.ext_getElem?
    intro i
    by_cases hi : b = i
    · subst hi; rw [Array.getElem?_setIfInBounds_self_of_lt (lt_of_heap h), h]
    · rw [Array.getElem?_setIfInBounds_ne hi]
  rw [this]
theorem setCell_blk {w : World} {b k : Nat} {c : List Value} {e : TypeId} {fz : Nat × Nat} (h : w.heap[b]? = some (.cells ⟨c⟩ e fz)) (v : Value) :
    w.setCell ⟨b, k, none⟩ v = setBlk w b (.cells ⟨c.set k v⟩ e fz) := by
  unfold World.setCell setBlk
  congr 1
  apply Array.ext_getElem?
  intro i
  by_cases hi : b = i
  · subst hi
    rw [Array.getElem?_setIfInBounds_self_of_lt (lt_of_heap h)]
    simp [Array.getElem?_modify, h]
  · rw [Array.getElem?_setIfInBounds_ne hi]
    simp [Array.getElem?_modify, hi]
theorem cell_blk {w : World} {b k : Nat} {c : List Value} {e : TypeId} {fz : Nat × Nat} (h : w.heap[b]? = some (.cells ⟨c⟩ e fz)) : w.cell? ⟨b, k, none⟩ = c[k]? := by
  simp [World.cell?, h]

theorem add_plain (b o j : Nat) : (⟨b, o, none⟩ : Addr).add j = ⟨b, o + j, none⟩ := by unfold Addr.add; split <;> simp_all

theorem run_stores {P : Program} {b o : Nat} {e : TypeId} {fz : Nat × Nat} : ∀ (vs cur pre post : List Value) (i : Nat) (w : World), w.heap[b]? = some (.cells ⟨pre ++ cur ++ post⟩ e fz) → cur.length = vs.length → o + i = pre.length →
    (fz = (0, 0) ∨ pre.length + cur.length ≤ fz.1) → (∀ v ∈ vs, v.oneCell' = true) → (storeCells ⟨b, o, none⟩ vs i).run P w = .ok () (setBlk w b (.cells ⟨pre ++ vs ++ post⟩ e fz)) := by
  intro vs
  induction vs with
  | nil =>
    intro cur pre post i w h hl _ _ _
    obtain rfl : cur = [] := by simpa using hl
    rw [setBlk_same h]
    rfl
  | cons v vs ih =>
    intro cur pre post i w h hl ho hfz h1
    cases cur with
    | nil => simp at hl
    | cons x cur =>
      have hc : w.cell? ⟨b, o + i, none⟩ = some x := by rw [cell_blk h, ho]; simp
      have hf : w.frozen? ⟨b, o + i, none⟩ = false := by
        simp only [World.frozen?, h]
        rcases hfz with rfl | hfz
        · simp
        · simp only [List.length_cons] at hfz
          simp; intro; omega
      have hst : (store ((⟨b, o, none⟩ : Addr).add i) v).run P w = .ok () (setBlk w b (.cells ⟨(pre ++ [v]) ++ cur ++ post⟩ e fz)) := by
        rw [add_plain, run_store P w _ v _ (h1 v (by simp))]
        simp only [hc, hf]
        rw [setCell_blk h, ho]
        simp
      have hlt : b < w.heap.size := lt_of_heap h
      have := ih cur (pre ++ [v]) post (i + 1) (setBlk w b (.cells ⟨(pre ++ [v]) ++ cur ++ post⟩ e fz)) (setBlk_self _ hlt) (by simpa using hl) (by simp; omega)
        (hfz.imp id fun h => by simp at h ⊢; omega) (fun x hx => h1 x (by simp [hx]))
      simp only [storeCells, Sem.run_bind, hst, Result.andThen_ok, this, setBlk_twice]
      simp

section
variable {P : Program} {T : TT TypeInfo} {env : Nat → Value} {ρ : Ren} {H H' : HS} {w : World}

theorem under_some (hT : Tabs P T) {t : TypeId} {d : TypeDesc} (h : under T t = some d) : P.underlying t = some d := by
  unfold under at h
  unfold Program.underlying
  cases hi : T.find t with
  | none => rw [hi] at h; simp at h
  | some i =>
    rw [hi] at h
    rw [hT.ty t i hi]
    obtain ⟨desc, _, _, _, _, _, _, _, _, _⟩ := i
    cases desc <;> simp_all
    case named nm u =>
      cases hj : T.find u with
      | none => rw [hj] at h; simp at h
      | some j => rw [hj] at h; exact ⟨j, hT.ty u j hj, by simpa using h⟩
theorem run_under (hT : Tabs P T) {t : TypeId} {d : TypeDesc} (h : under T t = some d) (w : World) : (underlying t).run P w = .ok d w := run_underlying (under_some hT h) w
theorem run_size (hT : Tabs P T) {t : TypeId} {n : Nat} (h : szOf T t = some n) (w : World) : (sizeOf t).run P w = .ok n w := by
  unfold szOf at h
  cases hi : T.find t with
  | none => rw [hi] at h; simp at h
  | some i => rw [hi] at h; simp at h; simp [sizeOf, typeInfo, hT.ty t i hi, h]
theorem run_typeInfo_of (hT : Tabs P T) {t : TypeId} {i : TypeInfo} (h : T.find t = some i) (w : World) : (typeInfo t).run P w = .ok i w := by
  simp [typeInfo, hT.ty t i h]
theorem run_zero (hT : Tabs P T) {t : TypeId} {z : Value} (h : zeroOf T t = some z) (w : World) : (zeroValue t).run P w = .ok z w := by
  unfold zeroOf at h
  cases hi : T.find t with
  | none => rw [hi] at h; simp at h
  | some i => rw [hi] at h; simp at h; simp [zeroValue, typeInfo, hT.ty t i hi, h]
theorem run_agg (hT : Tabs P T) {t : TypeId} {r : Option Nat} (h : aggOf T t = some r) (w : World) :
    (isAgg t).run P w = .ok r.isSome w ∧ ∀ n, r = some n → szOf T t = some n := by
  unfold aggOf at h
  cases hu : under T t with
  | none => rw [hu] at h; simp at h
  | some d =>
    rw [hu] at h
    have hr := run_under hT hu w
    cases d <;> simp at h <;> first
      | (subst h; exact ⟨by simp [isAgg, hr], by simp⟩)
      | (cases hs : szOf T t with
         | none => rw [hs] at h; simp at h
         | some n => rw [hs] at h; simp at h; subst h; exact ⟨by simp [isAgg, hr], by simp⟩)

theorem getC_run (hM : Match T env ρ H w) {id off n : Nat} {l : List Value} (h : getC H id off n = some l) {lc : Loc} (e : ρ id = some lc) :
    ∃ l', VRs ρ env l l' ∧ l.length = n ∧ ∀ j v, l'[j]? = some v → w.cell? ((⟨lc.blk, lc.base + off, none⟩ : Addr).add j) = some v := by
  unfold getC at h
  cases hf : H.h.find id with
  | none => rw [hf] at h; simp at h
  | some o =>
    rw [hf] at h
    obtain ⟨lc', e', hO⟩ := hM.obj id _ hf
    rw [e] at e'
    obtain rfl : lc = lc' := by simpa using e'
    obtain ⟨cs, pre, cs', sp, ty, fz, hh, hb, hv, h⟩ : ∃ (cs pre cs' sp : List Value) (ty : TypeId) (fz : Nat × Nat), w.heap[lc.blk]? = some (.cells ⟨pre ++ cs' ++ sp⟩ ty fz) ∧ pre.length = lc.base ∧ VRs ρ env cs cs' ∧ takeN n (dropN off cs) = some l := by
      cases o <;> simp at h
      · obtain ⟨pre, cs', sp, fz, hh, hb, hv, _⟩ := hO
        exact ⟨_, pre, cs', sp, _, fz, hh, hb, hv, h⟩
      · obtain ⟨pre, cs', sp, ty, fz, hh, hb, hv, _⟩ := hO
        exact ⟨_, pre, cs', sp, ty, fz, hh, hb, hv, h⟩
    rw [dropN_eq] at h
    obtain ⟨rfl, hl⟩ := takeN_some h
    refine ⟨(cs'.drop off).take n, (hv.drop off).take n, by simp at hl ⊢; omega, fun j v hj => ?_⟩
    rw [add_plain, cell_blk hh, ← hb]
    have hlen := hv.length
    have hj' : j < n := by
      rcases Nat.lt_or_ge j n with h | h
      · exact h
      · rw [List.getElem?_eq_none (by simp; omega)] at hj; cases hj
    rw [List.getElem?_take_of_lt hj', List.getElem?_drop] at hj
    have hlt : off + j < cs'.length := by
      rcases Nat.lt_or_ge (off + j) cs'.length with h | h
      · exact h
      · rw [List.getElem?_eq_none h] at hj; cases hj
    rw [List.append_assoc, List.getElem?_append_right (by omega), List.getElem?_append_left (by omega)]
    rw [show pre.length + off + j - pre.length = off + j by omega]
    exact hj

theorem allOne_spec (henv : ∀ i, (env i).oneCell' = true) {vs vs' : List Value} (h : allOne vs = true) (hv : VRs ρ env vs vs') : ∀ v ∈ vs', v.oneCell' = true := by
  induction vs generalizing vs' with
  | nil => cases hv; simp
  | cons v vs ih =>
    cases hv with
    | cons h1 h2 =>
      intro x hx
      have hone : oneV v = true ∧ allOne vs = true := by simpa [allOne] using h
      rcases List.mem_cons.1 hx with rfl | hx
      · cases h1 <;> first | rfl | exact henv _ | (simp [oneV] at hone)
      · exact ih hone.2 h2 x hx

theorem setC_run (henv : ∀ i, (env i).oneCell' = true) (hM : Match T env ρ H w) {id off : Nat} {vs vs' : List Value} (h : setC H id off vs = some H') (hv : VRs ρ env vs vs') {lc : Loc} (e : ρ id = some lc) :
    ∃ w', (storeCells ⟨lc.blk, lc.base + off, none⟩ vs').run P w = .ok () w' ∧ Post T env ρ H w ρ H' w' := by
  unfold setC at h
  cases hf : H.h.find id with
  | none => rw [hf] at h; simp at h
  | some o =>
    rw [hf] at h
    cases o <;> simp at h
    rename_i cs ty opn
    cases hone : allOne vs <;> simp [hone] at h
    cases hov : over off vs cs with
    | none => rw [hov] at h; simp at h
    | some cs2 =>
      rw [hov] at h
      simp at h
      subst h
      obtain ⟨lc', e', hO⟩ := hM.obj id _ hf
      rw [e] at e'
      obtain rfl : lc = lc' := by simpa using e'
      obtain ⟨pre, cs', sp, fz, hh, hb, hcs, hfz, hsp⟩ := hO
      obtain ⟨rfl, hl⟩ := over_some hov
      have hlen := hcs.length
      have hlen' := hv.length
      have hsplit : pre ++ cs' ++ sp = (pre ++ cs'.take off) ++ (cs'.drop off).take vs'.length ++ (cs'.drop (off + vs'.length) ++ sp) := by
        rw [← List.drop_drop]
        simp only [List.append_assoc]
        congr 1
        rw [← List.append_assoc ((cs'.drop off).take vs'.length), List.take_append_drop, ← List.append_assoc, List.take_append_drop]
      have hrun := run_stores (P := P) (b := lc.blk) (o := lc.base + off) (e := ty) (fz := fz) vs' ((cs'.drop off).take vs'.length) (pre ++ cs'.take off) (cs'.drop (off + vs'.length) ++ sp) 0 w
        (by rw [← hsplit]; exact hh) (by simp; omega) (by simp; omega) (hfz.imp (fun h => h) fun h => by rw [h]; simp; omega) (allOne_spec henv hone hv)
      refine ⟨_, hrun, Post.set hM hf e rfl (setBlk_upd w lc.blk _) ?_ (by simp [AObj.dep]) (by simp)⟩
      refine ⟨pre, cs'.take off ++ vs' ++ cs'.drop (off + vs'.length), sp, fz, ?_, hb, ?_, ?_, hsp⟩
      · rw [setBlk_self _ (lt_of_heap hh)]
        simp
      · rw [hlen']
        exact ((hcs.take off).append hv).append (hcs.drop _)
      · have : (cs'.take off ++ vs' ++ cs'.drop (off + vs'.length)).length = cs'.length := by simp; omega
        rw [this]
        exact hfz

theorem loadV_run (hT : Tabs P T) (hM : Match T env ρ H w) {t id off : Nat} {v : Value} (h : loadV T H t id off = some v) {lc : Loc} (e : ρ id = some lc) :
    ∃ v', (loadVar t ⟨lc.blk, lc.base + off, none⟩).run P w = .ok v' w ∧ VR ρ env v v' := by
  unfold loadV at h
  cases ha : aggOf T t with
  | none => rw [ha] at h; simp at h
  | some r =>
    rw [ha] at h
    obtain ⟨hr, hs⟩ := run_agg hT ha w
    cases r with
    | some n =>
      simp only at h
      cases hg : getC H id off n with
      | none => rw [hg] at h; simp at h
      | some l =>
        rw [hg] at h
        simp at h
        subst h
        obtain ⟨l', hv, hl, hc⟩ := getC_run hM hg e
        have hn : l'.length = n := by rw [← hv.length, hl]
        have hlc := run_loadCells_list (P := P) w _ l' hc
        rw [hn] at hlc
        refine ⟨.agg ⟨l'⟩, ?_, .agg hv⟩
        simp [loadVar, hr, run_size hT (hs n rfl), hlc]
    | none =>
      simp only at h
      cases hg : getC H id off 1 with
      | none => rw [hg] at h; simp at h
      | some l =>
        rw [hg] at h
        obtain ⟨l', hv, hl, hc⟩ := getC_run hM hg e
        match l, hl, h, hv with
        | [x], _, h, .cons hx .nil =>
          rename_i x'
          simp at h
          subst h
          have := hc 0 x' (by simp)
          rw [add_plain] at this
          refine ⟨x', ?_, hx⟩
          simp only [Nat.add_zero] at this
          simp [loadVar, hr, this]

theorem vcells_eq (v : Value) : vcells v = v.cells.toList := by cases v <;> rfl
theorem VR.cells {v v' : Value} (henv : ∀ i, (env i).oneCell' = true) (h : VR ρ env v v') : VRs ρ env (vcells v) v'.cells.toList := by
  have one : ∀ u : Value, u.oneCell' = true → u.cells.toList = [u] := fun u hu => by cases u <;> first | rfl | simp [Value.oneCell'] at hu
  cases h with
  | agg a => exact a
  | sym i => rw [one _ (henv i)]; exact .cons (.sym i) .nil
  | stamp e => exact .cons (.stamp e) .nil
  | ptr e => exact .cons (.ptr e) .nil
  | sl n e c => exact .cons (.sl n e c) .nil
  | slo n e c => exact .cons (.slo n e c) .nil
  | map e => exact .cons (.map e) .nil
  | chan e => exact .cons (.chan e) .nil
  | func f a b => exact .cons (.func f a b) .nil
  | yield e => exact .cons (.yield e) .nil
  | tuple a => exact .cons (.tuple a) .nil
  | bool b => exact .cons (.bool b) .nil
  | int k n => exact .cons (.int k n) .nil
  | string s => exact .cons (.string s) .nil
  | pnil => exact .cons .pnil .nil
  | snil n c => exact .cons (.snil n c) .nil
  | mnil => exact .cons .mnil .nil
  | cnil => exact .cons .cnil .nil
  | nilFunc => exact .cons .nilFunc .nil
  | nilIface => exact .cons .nilIface .nil
  | iface t a => exact .cons (.iface t a) .nil

theorem storeV_run (hT : Tabs P T) (henv : ∀ i, (env i).oneCell' = true) (hM : Match T env ρ H w) {t id off : Nat} {v v' : Value} (h : storeV T H t id off v = some H') (hv : VR ρ env v v') {lc : Loc} (e : ρ id = some lc) :
    ∃ w', (storeVar t ⟨lc.blk, lc.base + off, none⟩ v').run P w = .ok () w' ∧ Post T env ρ H w ρ H' w' := by
  unfold storeV at h
  cases hs : szOf T t with
  | none => rw [hs] at h; simp at h
  | some n =>
    rw [hs] at h
    simp only [cond_eq, Nat.beq_eq] at h
    split at h
    · rename_i hn
      have hc := hv.cells henv
      obtain ⟨w', hrun, hP⟩ := setC_run (P := P) henv hM h hc e
      refine ⟨w', ?_, hP⟩
      have hl := hc.length
      rw [lenL_eq] at hn
      have hsz : v'.cells.size = n := by rw [← Array.length_toList]; omega
      simp [storeVar, run_size hT hs, hsz, hrun]
    · cases h
end
end Go.Proofs.Ytddknmgajacofaa.Ev

/-
  An evaluator of Go code on closed data: operands, and operations on values.
-/
namespace Go.Proofs.Ytddknmgajacofaa.Ev
open Go

/-! ### values without addresses -/
section
variable {ρ : Ren} {env : Nat → Value}
theorem closed_self {d : Nat} : ∀ {v : Value}, closedB d v = true → VR ρ env v v := by
  induction d with
  | zero => intro v h; simp [closedB] at h
  | succ d ih =>
    intro v h
    have lst : ∀ l : List Value, l.all (closedB d) = true → VRs ρ env l l := by
      intro l
      induction l with
      | nil => intro _; exact .nil
      | cons x l ih' => intro h; simp only [List.all_cons, Bool.and_eq_true] at h; exact .cons (ih h.1) (ih' h.2)
    match v, h with
    | .bool b, _ => exact .bool b
    | .int k n, _ => exact .int k n
    | .string s, _ => exact .string s
    | .pointer none, _ => exact .pnil
    | .slice none n c, _ => exact .snil n c
    | .map none, _ => exact .mnil
    | .chan none, _ => exact .cnil
    | .nilFunc, _ => exact .nilFunc
    | .nilIface, _ => exact .nilIface
    | .agg ⟨cs⟩, h => exact .agg (lst cs h)
    | .tuple ⟨cs⟩, h => exact .tuple (lst cs h)
end
/-- Whose names are fixed: package variables. -/
noncomputable def Fixed (ρ : Ren) (G : Nat) : Prop := ∀ g, g < G → ∃ s, ρ g = some ⟨g, 0, s⟩
theorem Fixed.mono {ρ ρ' : Ren} {G : Nat} (h : Fixed ρ G) (hle : Ren.le ρ ρ') : Fixed ρ' G := fun g hg => let ⟨s, e⟩ := h g hg; ⟨s, hle _ _ e⟩

section
variable {ρ : Ren} {env : Nat → Value} {F : Fr} {a : Act} {G : Nat}
theorem evalO_ok (hF : FrOK ρ env F a.tmps) (hG : Fixed ρ G) {x : Operand} (hx : operB G x = true) : VR ρ env (evalO F x) (a.eval x) := by
  cases x with
  | tmp t => exact hF t
  | const v => exact closed_self hx
  | global g =>
    have hg : g < G := by
      have : g + 1 ≤ G := by simpa [operB, Nat.blt] using hx
      exact this
    obtain ⟨s, e⟩ := hG g hg
    exact VR.ptr (o := 0) e
  | func f => exact .func f .nil .nil
theorem evalL_ok (hF : FrOK ρ env F a.tmps) (hG : Fixed ρ G) : ∀ {l : List Operand}, l.all (operB G) = true → VRs ρ env (evalL F l) (l.map a.eval)
  | [], _ => .nil
  | x :: l, h => by
    simp only [List.all_cons, Bool.and_eq_true] at h
    exact .cons (evalO_ok hF hG h.1) (evalL_ok hF hG h.2)
theorem VRs.set {l l' : List Value} (h : VRs ρ env l l') (n : Nat) {v v' : Value} (hv : VR ρ env v v') : VRs ρ env (l.set n v) (l'.set n v') := by
  induction n generalizing l l' with
  | zero => cases h with
    | nil => exact .nil
    | cons _ h => exact .cons hv h
  | succ n ih => cases h with
    | nil => exact .nil
    | cons h1 h => exact .cons h1 (ih h)
theorem putD_ok (hF : FrOK ρ env F a.tmps) (dst : Option Tmp) (hd : ∀ d : Nat, dst = some d → d < a.tmps.size ∧ d < 4000) {v v' : Value} (hv : VR ρ env v v') : FrOK ρ env (putD F dst v) (a.put dst v').tmps := by
  cases dst with
  | none => exact hF
  | some d =>
    obtain ⟨h1, h2⟩ := hd d rfl
    have h3 : d + 1 < 2 ^ 12 := Nat.lt_of_le_of_lt (Nat.succ_le_of_lt h2) (by decide)
    intro t
    by_cases ht : d = t
    · subst ht
      simp only [putD, Act.put]
      rw [TT.find_set 12 _ _ _ h3]
      have : (a.tmps.setIfInBounds d v').getD d undef = v' := by simp [Array.getD_eq_getD_getElem?, h1]
      rw [this]
      exact hv
    · simp only [putD, Act.put]
      rw [TT.find_set_ne 12 _ _ _ _ ht]
      have : (a.tmps.setIfInBounds d v').getD t undef = a.tmps.getD t undef := by simp only [Array.getD_eq_getD_getElem?]; rw [Array.getElem?_setIfInBounds_ne ht]
      rw [this]
      exact hF t
theorem tmps_bool {tmps : Array Value} {d : Nat} {b : Bool} (h : tmps.getD d undef = .bool b) : tmps[d]? = some (.bool b) := by
  rw [Array.getD_eq_getD_getElem?] at h
  cases hd : tmps[d]? with
  | none => rw [hd] at h; simp [undef] at h
  | some v => rw [hd] at h; simpa using h
theorem yielded_ok {ops : Array Oper} (hF : FrOK ρ env F a.tmps) {j : Nat} {want : Bool} (hw : yieldedB ops.toList F j want = true) : yielded ops a.tmps j = some want := by
  unfold yieldedB at hw
  unfold yielded
  rw [nth_eq] at hw
  cases ho : ops.toList[j]? with
  | none => rw [ho] at hw; simp at hw
  | some o =>
    rw [ho] at hw
    rw [Array.getElem?_toList] at ho
    rw [ho]
    cases hd : o.dst with
    | none => simp [hd] at hw
    | some d =>
      simp only [hd] at hw
      simp only [Option.bind_some, hd]
      have hv := hF d
      split at hw
      · rename_i he
        rw [he] at hv
        generalize hg : a.tmps.getD d undef = u at hv
        cases hv
        rw [tmps_bool hg]
        simp [hw]
      · rename_i he
        rw [he] at hv
        generalize hg : a.tmps.getD d undef = u at hv
        cases hv
        rw [tmps_bool hg]
        simp at hw
        simp [hw]
      · cases hw
theorem VR.bool_back (henv : ∀ i b, env i ≠ .bool b) {v : Value} {b : Bool} (h : VR ρ env v (.bool b)) : v = .bool b := by
  generalize hu : Value.bool b = u at h
  cases h <;> first | exact absurd hu.symm (henv _ _) | (cases hu; rfl) | cases hu
theorem yielded_not {ops : Array Oper} (hF : FrOK ρ env F a.tmps) (henv : ∀ i b, env i ≠ .bool b) {j : Nat} {want : Bool} (hw : yieldedB ops.toList F j want = false) : yielded ops a.tmps j ≠ some want := by
  unfold yieldedB at hw
  unfold yielded
  rw [nth_eq] at hw
  cases ho : ops.toList[j]? with
  | none => rw [Array.getElem?_toList] at ho; simp [ho]
  | some o =>
    rw [ho] at hw
    rw [Array.getElem?_toList] at ho
    rw [ho]
    cases hd : o.dst with
    | none => simp [hd]
    | some d =>
      simp only [hd] at hw
      simp only [Option.bind_some, hd]
      have hv := hF d
      cases ht : a.tmps[d]? with
      | none => simp
      | some u =>
        have hg : a.tmps.getD d undef = u := by rw [Array.getD_eq_getD_getElem?, ht]; rfl
        rw [hg] at hv
        cases u with
        | bool b =>
          have hb := VR.bool_back henv hv
          cases hf : F.find d with
          | none => rw [hf] at hb; simp [orUndef, undefV] at hb
          | some x =>
            rw [hf] at hb hw
            simp only [orUndef] at hb
            subst hb
            cases b <;> cases want <;> simp_all
        | _ => simp
theorem wanted_ok {ops : Array Oper} (hF : FrOK ρ env F a.tmps) (henv : ∀ i b, env i ≠ .bool b) (o : Oper) : Region.wanted o (yielded ops a.tmps) = wantedB ops.toList o F := by
  unfold Region.wanted wantedB
  cases hg : o.guard with
  | none => rfl
  | some p =>
    obtain ⟨j, want⟩ := p
    simp only
    cases hy : yieldedB ops.toList F j want with
    | true => rw [yielded_ok hF hy]; simp
    | false => have := yielded_not hF henv hy; simpa using this
end

/-! ### integers and strings -/
theorem emod_bits (k : IntKind) (a : Int) : (BitVec.ofInt k.bits a).toNat = uOf k a := by
  have h := uOf_eq k a
  rw [BitVec.toNat_ofInt]
  have e : ((2 ^ k.bits : Nat) : Int) = (kMod k : Int) := by have := kMod_eq k; push_cast; exact this
  rw [e, ← h]
  simp
theorem toNat_emod (k : IntKind) (a : Int) : (a % 2 ^ k.bits).toNat = uOf k a := by rw [kMod_eq, ← uOf_eq]; simp
theorem nat_bits (k : IntKind) : 2 ^ k.bits = kMod k := by cases k <;> decide

section
variable {P : Program} (w : World)
theorem intBin_run {op : BinOp} {k : IntKind} {a b : Int} {v : Value} (t : TypeId) (h : intBin op k a b = some v) : (binOp op t (.int k a) (.int k b)).run P w = .ok v w := by
  cases op <;> simp only [intBin, cond_eq, Option.some.injEq] at h <;> try cases h
  case add => simp [binOp, Op.intArith, wrapK_eq]
  case sub => simp [binOp, Op.intArith, wrapK_eq]
  case mul => simp [binOp, Op.intArith, wrapK_eq]
  case quo => split at h
              · cases h
              · rename_i hb; rw [ieq_iff] at hb; simp at h; subst h; simp [binOp, Op.intDiv, hb, wrapK_eq]
  case rem => split at h
              · cases h
              · rename_i hb; rw [ieq_iff] at hb; simp at h; subst h; simp [binOp, Op.intDiv, hb]
  case and =>
    have hlt : Nat.land (uOf k a) (uOf k b) < kMod k := by rw [← nat_bits]; exact Nat.and_lt_two_pow _ (by rw [nat_bits]; exact uOf_lt k b)
    rw [ofU_eq k _ hlt]
    simp [binOp, Op.intBits, toNat_emod]
  case or =>
    have hlt : Nat.lor (uOf k a) (uOf k b) < kMod k := by rw [← nat_bits]; exact Nat.or_lt_two_pow (by rw [nat_bits]; exact uOf_lt k a) (by rw [nat_bits]; exact uOf_lt k b)
    rw [ofU_eq k _ hlt]
    simp [binOp, Op.intBits, toNat_emod]
  case xor =>
    have hlt : Nat.xor (uOf k a) (uOf k b) < kMod k := by rw [← nat_bits]; exact Nat.xor_lt_two_pow (by rw [nat_bits]; exact uOf_lt k a) (by rw [nat_bits]; exact uOf_lt k b)
    rw [ofU_eq k _ hlt]
    simp [binOp, Op.intBits, toNat_emod]
  case eql => simp [binOp, Op.intCmp, ieq_eq]
  case neq => simp [binOp, Op.intCmp, ieq_eq, bne]
  case lss => simp only [binOp, Op.intCmp, ile_eq, ne_eq, not_true, if_false, Sem.run_pure]; congr 2; rw [Bool.eq_iff_iff]; simp
  case leq => simp [binOp, Op.intCmp, ile_eq]
  case gtr => simp only [binOp, Op.intCmp, ile_eq, ne_eq, not_true, if_false, Sem.run_pure]; congr 2; rw [Bool.eq_iff_iff]; simp
  case geq => simp [binOp, Op.intCmp, ile_eq]

theorem wrap_zero (k : IntKind) : k.wrap 0 = 0 := by cases k <;> decide
theorem wrap_mul_big (k : IntKind) (a : Int) : k.wrap (a * 2 ^ k.bits) = 0 := by
  unfold IntKind.wrap
  have : a * 2 ^ k.bits % 2 ^ k.bits = 0 := Int.mul_emod_left _ _
  simp only [this]
  cases k <;> decide
theorem fdiv_pow (a : Int) (n : Nat) : a.fdiv (2 ^ n) = match a with | .ofNat m => Int.ofNat (Nat.shiftRight m n) | .negSucc m => Int.negSucc (Nat.shiftRight m n) := by
  have e : ((2:Int) ^ n) = ((2 ^ n : Nat) : Int) := by push_cast; rfl
  have hp : 0 < 2 ^ n := Nat.two_pow_pos n
  rw [e, Int.fdiv_eq_ediv_of_nonneg _ (by omega)]
  cases a with
  | ofNat m => simp only [Int.ofNat_eq_natCast, ← Int.natCast_ediv]; congr 1; exact (Nat.shiftRight_eq_div_pow m n).symm
  | negSucc m =>
    rw [Int.negSucc_ediv m (by exact_mod_cast hp)]
    simp only
    rw [show Nat.shiftRight m n = m / 2 ^ n from Nat.shiftRight_eq_div_pow m n]
    rw [Int.negSucc_eq]
    push_cast
    rfl
theorem shiftBin_run {left : Bool} {k k' : IntKind} {a b : Int} {v : Value} (t : TypeId) (h : shiftBin left k a b = some v) : (binOp (if left then .shl else .shr) t (.int k a) (.int k' b)).run P w = .ok v w := by
  unfold shiftBin at h
  have hk : kBits k = k.bits := by cases k <;> rfl
  cases b with
  | negSucc m => simp at h
  | ofNat n =>
    have hn : ¬ (n : Int) < 0 := by omega
    cases left
    · simp only [cond_false] at h
      have key := fdiv_pow a (min n k.bits)
      have hmin : (bif Nat.ble (kBits k) n then kBits k else n) = min n k.bits := by
        rw [cond_eq, hk]; simp only [Nat.ble_eq]; split <;> omega
      rw [hmin] at h
      have hv : v = .int k (a.fdiv (2 ^ min n k.bits)) := by rw [key]; cases a <;> simp at h <;> exact h.symm
      subst hv
      simp [binOp, Op.shift]
      intro hh
      exact absurd hh hn
    · simp only [cond_eq, hk, Nat.ble_eq] at h
      by_cases hc : k.bits ≤ n
      · rw [if_pos hc] at h
        simp at h
        subst h
        have : min n k.bits = k.bits := by omega
        simp [binOp, Op.shift, this, wrap_mul_big]
        intro hh
        exact absurd hh hn
      · rw [if_neg hc] at h
        simp at h
        subst h
        have : min n k.bits = n := by omega
        simp [binOp, Op.shift, this, wrapK_eq]
        intro hh
        exact absurd hh hn

theorem beqL_eq (a b : List UInt8) : beqL a b = (a == b) := by
  induction a generalizing b with
  | nil => cases b <;> rfl
  | cons x a ih =>
    cases b with
    | nil => rfl
    | cons y b =>
      simp only [beqL, ih, List.cons_beq_cons]
      congr 1
      rw [Bool.eq_iff_iff, Nat.beq_eq, beq_iff_eq, UInt8.toNat_inj]
theorem ltL_eq (a b : List UInt8) : ltL a b = Op.bytesLess a b := by
  induction a generalizing b with
  | nil => cases b <;> rfl
  | cons x a ih =>
    cases b with
    | nil => rfl
    | cons y b =>
      simp only [ltL, Op.bytesLess, ih]
      have h1 : Nat.blt x.toNat y.toNat = decide (x < y) := by
        rw [Bool.eq_iff_iff, decide_eq_true_iff, UInt8.lt_iff_toNat_lt]
        simp [Nat.blt, Nat.succ_le_iff]
      have h2 : Nat.beq x.toNat y.toNat = (x == y) := by rw [Bool.eq_iff_iff, Nat.beq_eq, beq_iff_eq, UInt8.toNat_inj]
      rw [h1, h2]
theorem sL_eq (s : ByteArray) : s.toList = sL s := ByteArray.toList_eq s
theorem i64max : IntKind.i64.max = 9223372036854775807 := by decide
theorem sL_len (s : ByteArray) : (sL s).length = s.size := by unfold sL; exact Array.length_toList
theorem strBin_run {op : BinOp} {a b : ByteArray} {v : Value} (t : TypeId) (h : strBin op a b = some v) : (binOp op t (.string a) (.string b)).run P w = .ok v w := by
  cases op <;> simp only [strBin, cond_eq, Option.some.injEq, Nat.ble_eq, lenL_eq] at h <;> try cases h
  case add =>
    split at h
    · rename_i hl
      simp at h
      subst h
      have e : a ++ b = mkS (sL a ++ sL b) := by
        unfold mkS sL
        apply ByteArray.ext
        simp [ByteArray.data_append]
      have hs : ((a.size + b.size : Nat) : Int) ≤ IntKind.i64.max := by
        rw [i64max]
        have h1 := sL_len a
        have h2 := sL_len b
        omega
      simp only [binOp, Op.stringOp]
      rw [if_neg (by omega)]
      simp [e]
    · cases h
  all_goals simp [binOp, Op.stringOp, sL_eq, beqL_eq, ltL_eq]
theorem unV_run {op : UnOp} {x v : Value} (h : unV op x = some v) : (Op.unary op x).run P w = .ok v w := by
  cases op <;> cases x <;> simp only [unV, Option.some.injEq] at h <;> try cases h
  case neg.int k n => simp [Op.unary, Op.intArith, wrapK_eq]
  case xor.int k n =>
    have hlt : kMod k - 1 - uOf k n < kMod k := by have := uOf_lt k n; omega
    rw [ofU_eq k _ hlt]
    have hx : (BitVec.ofInt k.bits (if k.signed then -1 else k.max) ^^^ BitVec.ofInt k.bits n).toNat = kMod k - 1 - uOf k n := by
      have h1 : BitVec.ofInt k.bits (if k.signed then -1 else k.max) = BitVec.allOnes k.bits := by cases k <;> decide
      rw [h1, BitVec.allOnes_xor, BitVec.toNat_not, emod_bits, nat_bits]
    simp [Op.unary, Op.intBits, hx]
  case not.bool b => simp [Op.unary]
end
end Go.Proofs.Ytddknmgajacofaa.Ev

/-
  An evaluator of Go code on closed data: operations, first part.
-/
namespace Go.Proofs.Ytddknmgajacofaa.Ev
open Go

/-- What an operation gives, at once. -/
noncomputable def Gives (P : Program) (o : Oper) (a : Act) (w : World) (v' : Value) (w' : World) : Prop :=
  (execOp a.eval o).run P w = .ok (.value v') w' ∨ (v' = undef ∧ (execOp a.eval o).run P w = .ok .skip w')

/-- The tables, and what is true of them all along. -/
structure Cx (P : Program) (T : TT TypeInfo) (env : Nat → Value) (G : Nat) : Prop where
  tabs : Tabs P T
  zero : ∀ t z, zeroOf T t = some z → closedB 3 z = true
  one : ∀ i, (env i).oneCell' = true
  nob : ∀ i b, env i ≠ .bool b

structure At (T : TT TypeInfo) (env : Nat → Value) (G : Nat) (ρ : Ren) (F : Fr) (H : HS) (a : Act) (w : World) : Prop where
  fr : FrOK ρ env F a.tmps
  fx : Fixed ρ G
  ok : Match T env ρ H w

noncomputable def Done (P : Program) (T : TT TypeInfo) (env : Nat → Value) (o : Oper) (ρ : Ren) (H : HS) (a : Act) (w : World) (v : Value) (H' : HS) : Prop :=
  ∃ ρ' v' w', Gives P o a w v' w' ∧ VR ρ' env v v' ∧ Post T env ρ H w ρ' H' w'

section
variable {P : Program} {T : TT TypeInfo} {env : Nat → Value} {G : Nat} {ρ : Ren} {F : Fr} {H H' : HS} {a : Act} {w : World} {v : Value} {o : Oper}

theorem Done.same (hA : At T env G ρ F H a w) {v' : Value} (h : (execOp a.eval o).run P w = .ok (.value v') w) (hv : VR ρ env v v') : Done P T env o ρ H a w v H :=
  ⟨ρ, v', w, .inl h, hv, Post.refl hA.ok⟩

theorem push_upd (w : World) (ob : Obj) : Upd Nowhere w { w with heap := w.heap.push ob } := (Upd.refl Nowhere w).alloc ob
theorem push_new (w : World) (ob : Obj) : ({ w with heap := w.heap.push ob } : World).heap[w.heap.size]? = some ob := by simp

/-- A block of cells is made. -/
theorem new_cells {cs cs' : List Value} {e : TypeId} (hM : Match T env ρ H w) (hv : VRs ρ env cs cs') (hn : newO H (.cells cs e false) = some H') (hf : Free ρ H.n H'.n) :
    ∃ ρ', ρ' H.n = some ⟨w.heap.size, 0, 0⟩ ∧ Post T env ρ H w ρ' H' { w with heap := w.heap.push (.cells ⟨cs'⟩ e) } := by
  have hfr : ρ H.n = none := by
    refine hf H.n (Nat.le_refl _) ?_
    simp only [newO, cond_eq] at hn
    split at hn
    · obtain rfl := Option.some.inj hn; simp
    · cases hn
  refine ⟨_, bind_self ρ H.n _, Post.new hM hn hfr rfl ⟨w.heap.size, 0, 0⟩ (Nat.le_refl _) (push_upd w _) ?_⟩
  exact ⟨[], cs', [], (0, 0), by rw [push_new]; simp, rfl, hv.mono (bind_le _ hfr), .inl rfl, by simp⟩

theorem map_mk {α β : Type} (f : α → β) (p : Array α) : p.map f = ⟨p.toList.map f⟩ := Array.ext' (by simp)
theorem newO_free {ob : AObj} (hn : newO H ob = some H') (hf : Free ρ H.n H'.n) : ρ H.n = none := by
  refine hf H.n (Nat.le_refl _) ?_
  simp only [newO, cond_eq] at hn
  split at hn
  · obtain rfl := Option.some.inj hn; simp
  · cases hn

theorem newV_some {ob : AObj} {mk : Nat → Value} {r : OR} (h : newV H ob mk = some r) : ∃ H', newO H ob = some H' ∧ r = .val (mk H.n) H' := by
  unfold newV at h
  cases hn : newO H ob with
  | none => rw [hn] at h; simp at h
  | some H' => rw [hn] at h; simp at h; exact ⟨H', rfl, h.symm⟩

section
variable (hC : Cx P T env G) (hA : At T env G ρ F H a w) (hf : Free ρ H.n H'.n) (hB : opB G o.op = true) (hE : evOp T o.op F H = some (.val v H'))
include hA hB hE

theorem val_move {x : Operand} (ho : o.op = .move x ∨ o.op = .assign x) : Done P T env o ρ H a w v H' := by
  rcases ho with ho | ho <;>
  · rw [ho] at hE hB
    simp only [evOp, Option.some.injEq, OR.val.injEq] at hE
    obtain ⟨rfl, rfl⟩ := hE
    exact Done.same hA (by simp [execOp, ho]) (evalO_ok hA.fr hA.fx (by simpa [opB, Op.operands] using hB))

theorem val_pick {c x y : Operand} (ho : o.op = .pick c x y) : Done P T env o ρ H a w v H' := by
  rw [ho] at hE hB
  simp only [evOp, ev_pick] at hE
  simp [opB, Op.operands] at hB
  have hc := evalO_ok hA.fr hA.fx hB.1
  match hv : evalO F c, hE with
  | .bool true, hE =>
    simp only [Option.some.injEq, OR.val.injEq] at hE
    obtain ⟨rfl, rfl⟩ := hE
    rw [hv] at hc
    generalize hx : a.eval c = c' at hc
    cases hc
    exact Done.same hA (by simp [execOp, ho, hx, asBool]) (evalO_ok hA.fr hA.fx hB.2.1)
  | .bool false, hE =>
    simp only [Option.some.injEq, OR.val.injEq] at hE
    obtain ⟨rfl, rfl⟩ := hE
    rw [hv] at hc
    generalize hx : a.eval c = c' at hc
    cases hc
    exact Done.same hA (by simp [execOp, ho, hx, asBool]) (evalO_ok hA.fr hA.fx hB.2.2)

omit hB in
include hC hf in
theorem val_alloc {t : TypeId} (ho : o.op = .alloc t) : Done P T env o ρ H a w v H' := by
  rw [ho] at hE
  simp only [evOp, ev_alloc] at hE
  cases hz : zeroOf T t with
  | none => rw [hz] at hE; simp at hE
  | some z =>
    rw [hz] at hE
    obtain ⟨H1, hn, hr⟩ := newV_some hE
    obtain ⟨rfl, rfl⟩ : v = ptrTo H.n ∧ H' = H1 := by simpa using hr
    have hzv : VRs ρ env (vcells z) z.cells.toList := (closed_self (ρ := ρ) (hC.zero t z hz)).cells hC.one
    obtain ⟨ρ', h1, h2⟩ := new_cells hA.ok hzv hn hf
    refine ⟨ρ', _, _, .inl ?_, VR.ptr (o := 0) h1, h2⟩
    simp [execOp, ho, Instr.alloc, run_zero hC.tabs hz, newVar, newRow]

include hC hf in
theorem val_box {t : TypeId} {x : Operand} (ho : o.op = .box t x) : Done P T env o ρ H a w v H' := by
  rw [ho] at hE hB
  simp only [evOp, ev_box] at hE
  simp [opB, Op.operands] at hB
  obtain ⟨H1, hn, hr⟩ := newV_some hE
  obtain ⟨rfl, rfl⟩ : v = ptrTo H.n ∧ H' = H1 := by simpa using hr
  have hx := (evalO_ok hA.fr hA.fx hB).cells hC.one
  obtain ⟨ρ', h1, h2⟩ := new_cells hA.ok hx hn hf
  refine ⟨ρ', _, _, .inl ?_, VR.ptr (o := 0) h1, h2⟩
  simp [execOp, ho, Instr.box, newVar, newRow]

include hC in
theorem val_load {t : TypeId} {x : Operand} (ho : o.op = .load t x) : Done P T env o ρ H a w v H' := by
  rw [ho] at hE hB
  simp only [evOp, ev_load] at hE
  simp [opB, Op.operands] at hB
  have hx := evalO_ok hA.fr hA.fx hB
  match hv : evalO F x, hE with
  | .pointer (some ad), hE =>
    rw [hv] at hx
    generalize he : a.eval x = x' at hx
    cases hx with
    | @ptr b off l e =>
      simp only at hE
      cases hl : loadV T H t b off with
      | none => rw [hl] at hE; simp [rv] at hE
      | some u =>
        rw [hl] at hE
        simp only [rv, Option.some.injEq, OR.val.injEq] at hE
        obtain ⟨rfl, rfl⟩ := hE
        obtain ⟨v', h1, h2⟩ := loadV_run hC.tabs hA.ok hl e
        exact Done.same hA (by simp [execOp, ho, he, Instr.loadAt, Instr.sureAddr, h1]) h2

include hC in
theorem val_store {t : TypeId} {x y : Operand} (ho : o.op = .store t x y) : Done P T env o ρ H a w v H' := by
  rw [ho] at hE hB
  simp only [evOp, ev_store] at hE
  simp [opB, Op.operands] at hB
  have hx := evalO_ok hA.fr hA.fx hB.1
  have hy := evalO_ok hA.fr hA.fx hB.2
  match hv : evalO F x, hE with
  | .pointer (some ad), hE =>
    rw [hv] at hx
    generalize he : a.eval x = x' at hx
    cases hx with
    | @ptr b off l e =>
      simp only at hE
      cases hl : storeV T H t b off (evalO F y) with
      | none => rw [hl] at hE; simp [rh] at hE
      | some H1 =>
        rw [hl] at hE
        simp only [rh, Option.some.injEq, OR.val.injEq] at hE
        obtain ⟨rfl, rfl⟩ := hE
        obtain ⟨w', h1, h2⟩ := storeV_run hC.tabs hC.one hA.ok hl hy e
        exact ⟨ρ, undef, w', .inr ⟨rfl, by simp [execOp, ho, he, Instr.storeAt, Instr.sureAddr, h1]⟩, .tuple .nil, h2⟩

theorem val_nilCheck {x : Operand} (ho : o.op = .nilCheck x) : Done P T env o ρ H a w v H' := by
  rw [ho] at hE hB
  simp only [evOp, ev_nilCheck] at hE
  simp [opB, Op.operands] at hB
  have hx := evalO_ok hA.fr hA.fx hB
  match hv : evalO F x, hE with
  | .pointer (some ad), hE =>
    simp only [Option.some.injEq, OR.val.injEq] at hE
    obtain ⟨rfl, rfl⟩ := hE
    rw [hv] at hx
    generalize he : a.eval x = x' at hx
    have hx' := hx
    cases hx with
    | ptr e => exact Done.same hA (by simp [execOp, ho, he]) hx'
  | .func (.func f) p q, hE =>
    simp only [Option.some.injEq, OR.val.injEq] at hE
    obtain ⟨rfl, rfl⟩ := hE
    rw [hv] at hx
    generalize he : a.eval x = x' at hx
    have hx' := hx
    cases hx with
    | func _ _ _ => exact Done.same hA (by simp [execOp, ho, he]) hx'

theorem val_unOp {op : UnOp} {t : TypeId} {x : Operand} (ho : o.op = .unOp op t x) : Done P T env o ρ H a w v H' := by
  rw [ho] at hE hB
  simp only [evOp, ev_unOp] at hE
  simp [opB, Op.operands] at hB
  have hx := evalO_ok hA.fr hA.fx hB
  cases hu : unV op (evalO F x) with
  | none => rw [hu] at hE; simp [rv] at hE
  | some u =>
    rw [hu] at hE
    simp only [rv, Option.some.injEq, OR.val.injEq] at hE
    obtain ⟨rfl, rfl⟩ := hE
    generalize he : a.eval x = x' at hx
    generalize hy : evalO F x = y at hx hu
    have same : x' = y ∧ VR ρ env u u := by
      cases op <;> cases y <;> simp only [unV] at hu <;> try cases hu
      all_goals (cases hx; exact ⟨rfl, by first | exact .int _ _ | exact .bool _⟩)
    obtain ⟨rfl, hvv⟩ := same
    have := unV_run (P := P) w hu
    exact Done.same hA (by simp [execOp, ho, he, this]) hvv

theorem val_makeFunc {fn : Fn} {p q : Array Operand} (ho : o.op = .makeFunc fn p q) : Done P T env o ρ H a w v H' := by
  rw [ho] at hE hB
  simp only [evOp, ev_makeFunc] at hE
  simp only [opB, Op.operands, Array.toList_append, List.all_append, Bool.and_eq_true] at hB
  match fn, hE with
  | .func f, hE =>
    simp only [Option.some.injEq, OR.val.injEq] at hE
    obtain ⟨rfl, rfl⟩ := hE
    have h1 := evalL_ok hA.fr hA.fx hB.1
    have h2 := evalL_ok hA.fr hA.fx hB.2
    refine Done.same hA (v' := .func (.func f) ⟨p.toList.map a.eval⟩ ⟨q.toList.map a.eval⟩) ?_ (.func f h1 h2)
    simp only [execOp, ho, Instr.makeFunc, Sem.run_bind, Sem.run_pure, Result.andThen_ok, map_mk]

theorem val_extract {x : Operand} {i : Nat} (ho : o.op = .extract x i) : Done P T env o ρ H a w v H' := by
  rw [ho] at hE hB
  simp only [evOp, ev_extract] at hE
  simp [opB, Op.operands] at hB
  have hx := evalO_ok hA.fr hA.fx hB
  match hv : evalO F x, hE with
  | .tuple ⟨vs⟩, hE =>
    rw [hv] at hx
    generalize he : a.eval x = x' at hx
    cases hx with
    | @tuple _ vs' h =>
      simp only [nth_eq] at hE
      cases hl : vs[i]? with
      | none => rw [hl] at hE; simp [rv] at hE
      | some u =>
        rw [hl] at hE
        simp only [rv, Option.some.injEq, OR.val.injEq] at hE
        obtain ⟨rfl, rfl⟩ := hE
        obtain ⟨v', h1, h2⟩ := h.get hl
        refine Done.same hA ?_ h2
        simp [execOp, ho, he, Instr.extract, h1]

end
end
end Go.Proofs.Ytddknmgajacofaa.Ev

/-
  An evaluator of Go code on closed data: operations, second part: parts of values, building, addresses.
-/
namespace Go.Proofs.Ytddknmgajacofaa.Ev
open Go

section
variable {P : Program} {T : TT TypeInfo} {env : Nat → Value} {G : Nat} {ρ : Ren} {F : Fr} {H H' : HS} {a : Act} {w : World} {v : Value} {o : Oper}

theorem partV_run (hT : Tabs P T) {t : TypeId} {cs cs' : List Value} {off : Nat} {u : Value} (h : partV T t cs off = some u) (hv : VRs ρ env cs cs') (w : World) :
    ∃ u', (part t ⟨cs'⟩ off).run P w = .ok u' w ∧ VR ρ env u u' := by
  unfold partV at h
  cases ha : aggOf T t with
  | none => rw [ha] at h; simp at h
  | some r =>
    rw [ha] at h
    obtain ⟨hr, hs⟩ := run_agg hT ha w
    cases r with
    | some n =>
      simp only at h
      cases ht : takeN n (dropN off cs) with
      | none => rw [ht] at h; simp at h
      | some l =>
        rw [ht] at h
        simp at h
        subst h
        rw [dropN_eq] at ht
        obtain ⟨rfl, hl⟩ := takeN_some ht
        refine ⟨.agg ⟨(cs'.drop off).take n⟩, ?_, .agg ((hv.drop off).take n)⟩
        simp only [part, Sem.run_bind, hr, Result.andThen_ok, Option.isSome_some, run_size hT (hs n rfl), if_true, Sem.run_pure]
        congr 2
        apply Array.ext'
        simp [List.take_drop]
    | none =>
      simp only [nth_eq] at h
      obtain ⟨u', h1, h2⟩ := hv.get h
      refine ⟨u', ?_, h2⟩
      simp [part, hr, h1]

/-! ### building -/
theorem foldl_set (vs : List Value) : ∀ (k off : Nat) (cs : List Value), off + k + vs.length ≤ cs.length →
    ((vs.zipIdx k).foldl (fun (cs : Array Value) (x : Value × Nat) => cs.setIfInBounds (off + x.2) x.1) ⟨cs⟩) = ⟨cs.take (off + k) ++ vs ++ cs.drop (off + k + vs.length)⟩ := by
  induction vs with
  | nil => intro k off cs h; simp
  | cons v vs ih =>
    intro k off cs h
    simp only [List.length_cons] at h
    simp only [List.zipIdx_cons, List.foldl_cons]
    have e : (⟨cs⟩ : Array Value).setIfInBounds (off + k) v = ⟨cs.set (off + k) v⟩ := by apply Array.ext'; simp
    rw [e, ih (k + 1) off _ (by simp; omega)]
    congr 1
    rw [show off + (k + 1) = (off + k) + 1 by omega]
    have hk : off + k < cs.length := by omega
    rw [List.take_set_of_le' hk v, List.drop_set_of_lt (by omega)]
    simp
    omega
where
  List.take_set_of_le' {cs : List Value} {n : Nat} (h : n < cs.length) (v : Value) : (cs.set n v).take (n + 1) = cs.take n ++ [v] := by
    rw [List.take_add_one]
    rw [List.take_set, List.set_eq_of_length_le (by simp; omega)]
    simp [h]

inductive PRs (ρ : Ren) (env : Nat → Value) : List (Nat × Value) → List (Nat × Value) → Prop
  | nil : PRs ρ env [] []
  | cons {i : Nat} {v v' : Value} {l l' : List (Nat × Value)} : VR ρ env v v' → PRs ρ env l l' → PRs ρ env ((i, v) :: l) ((i, v') :: l')
theorem evalP_ok (hF : FrOK ρ env F a.tmps) (hG : Fixed ρ G) : ∀ {l : List (Nat × Operand)}, (l.map (·.2)).all (operB G) = true → PRs ρ env (evalP F l) (l.map fun (i, x) => (i, a.eval x))
  | [], _ => .nil
  | (i, x) :: l, h => by
    simp only [List.map_cons, List.all_cons, Bool.and_eq_true] at h
    exact .cons (evalO_ok hF hG h.1) (evalP_ok hF hG h.2)

theorem fillV_run (henv : ∀ i, (env i).oneCell' = true) {place : Nat → Option (Nat × Nat)} : ∀ {ps ps' : List (Nat × Value)} {cs cs' r : List Value}, PRs ρ env ps ps' → VRs ρ env cs cs' → fillV place ps cs = some r →
    ∃ r', Instr.fill place ⟨cs'⟩ ps' = some ⟨r'⟩ ∧ VRs ρ env r r' := by
  intro ps
  induction ps with
  | nil =>
    intro ps' cs cs' r hp hc h
    cases hp
    simp [fillV] at h
    subst h
    exact ⟨cs', rfl, hc⟩
  | cons p ps ih =>
    intro ps' cs cs' r hp hc h
    cases hp with
    | @cons i v v' _ l' hv hp =>
      simp only [fillV] at h
      cases hpl : place i with
      | none => rw [hpl] at h; simp at h
      | some q =>
        obtain ⟨off, size⟩ := q
        rw [hpl] at h
        simp only [cond_eq, Nat.beq_eq, lenL_eq] at h
        split at h
        · rename_i hsz
          cases hov : over off (vcells v) cs with
          | none => rw [hov] at h; simp at h
          | some cs2 =>
            rw [hov] at h
            simp only at h
            obtain ⟨rfl, hl⟩ := over_some hov
            have hcv := hv.cells henv
            have hlen := hcv.length
            have hlen2 := hc.length
            have hsz' : v'.cells.size = size := by rw [← Array.length_toList]; omega
            obtain ⟨r', h1, h2⟩ := ih hp (((hc.take off).append hcv).append (hc.drop (off + (vcells v).length))) h
            refine ⟨r', ?_, h2⟩
            have hfold := foldl_set v'.cells.toList 0 off cs' (by omega)
            simp only [Nat.add_zero] at hfold
            have hz : v'.cells.zipIdx.foldl (fun (cs : Array Value) (x : Value × Nat) => cs.setIfInBounds (off + x.2) x.1) (⟨cs'⟩ : Array Value) = ⟨cs'.take off ++ v'.cells.toList ++ cs'.drop (off + v'.cells.toList.length)⟩ := by
              rw [← hfold, ← Array.foldl_toList]
              simp
            have hg : ¬ (off + v'.cells.size > (⟨cs'⟩ : Array Value).size) := by
              have : (⟨cs'⟩ : Array Value).size = cs'.length := rfl
              rw [this, hsz']; omega
            rw [hlen] at h1
            unfold Instr.fill
            simp only [hpl, hsz', ne_eq, not_true, decide_false, Bool.false_or, decide_eq_true_eq]
            rw [if_neg (by rw [← hsz']; exact hg)]
            rw [← h1, ← hz]
        · cases h

theorem placesV_run (hT : Tabs P T) : ∀ {fs : List Field} {pl : List (Nat × Nat)}, placesV T fs = some pl → ∀ w, (fs.mapM fun f => do pure (f.offset, ← sizeOf f.type) : Sem (List (Nat × Nat))).run P w = .ok pl w := by
  intro fs
  induction fs with
  | nil => intro pl h w; simp [placesV] at h; subst h; rfl
  | cons f fs ih =>
    intro pl h w
    simp only [placesV] at h
    cases hs : szOf T f.type with
    | none => rw [hs] at h; simp at h
    | some s =>
      rw [hs] at h
      cases hp : placesV T fs with
      | none => rw [hp] at h; simp at h
      | some r =>
        rw [hp] at h
        simp at h
        subst h
        simp only [List.mapM_cons, Sem.run_bind, run_size hT hs, Result.andThen_ok, Sem.run_pure, ih hp w]
theorem mapM_array {α β : Type} (f : α → Sem β) (fs : Array α) {r : List β} {w w' : World} (h : (fs.toList.mapM f).run P w = .ok r w') : (fs.mapM f).run P w = .ok ⟨r⟩ w' := by
  rw [Array.mapM_eq_mapM_toList]
  simp [h]

section
variable (hC : Cx P T env G) (hA : At T env G ρ F H a w) (hf : Free ρ H.n H'.n) (hB : opB G o.op = true) (hE : evOp T o.op F H = some (.val v H'))
include hA hB hE

include hC in
theorem val_build {t : TypeId} {ps : Array (Nat × Operand)} (ho : o.op = .build t ps) : Done P T env o ρ H a w v H' := by
  rw [ho] at hE hB
  simp only [evOp, ev_build] at hE
  simp only [opB, Op.operands] at hB
  have hps := evalP_ok hA.fr hA.fx (l := ps.toList) (by simpa using hB)
  have hmap : (ps.map fun (i, x) => (i, a.eval x)).toList = ps.toList.map fun (i, x) => (i, a.eval x) := by simp
  cases hz : zeroOf T t with
  | none => rw [hz] at hE; simp at hE
  | some z =>
    rw [hz] at hE
    simp only at hE
    have hzv : VRs ρ env (vcells z) z.cells.toList := (closed_self (ρ := ρ) (hC.zero t z hz)).cells hC.one
    cases hu : under T t with
    | none => rw [hu] at hE; simp at hE
    | some d =>
      rw [hu] at hE
      match d, hE, hu with
      | .struct fs, hE, hu =>
        simp only at hE
        cases hp : placesV T fs.toList with
        | none => rw [hp] at hE; simp at hE
        | some pl =>
          rw [hp] at hE
          simp only at hE
          cases hfl : fillV (fun i => nth i pl) (evalP F ps.toList) (vcells z) with
          | none => rw [hfl] at hE; simp at hE
          | some l =>
            rw [hfl] at hE
            simp only [Option.some.injEq, OR.val.injEq] at hE
            obtain ⟨rfl, rfl⟩ := hE
            obtain ⟨r', h1, h2⟩ := fillV_run hC.one hps hzv hfl
            have hpl : (fun i => nth i pl) = fun i => (⟨pl⟩ : Array (Nat × Nat))[i]? := by funext i; rw [nth_eq]; simp
            rw [hpl] at h1
            refine Done.same hA (v' := .agg ⟨r'⟩) ?_ (.agg h2)
            simp only [execOp, ho, Instr.build, Sem.run_bind, run_zero hC.tabs hz, Result.andThen_ok, run_under hC.tabs hu, mapM_array _ fs (placesV_run hC.tabs hp w), hmap]
            rw [show (⟨z.cells.toList⟩ : Array Value) = z.cells from rfl] at h1
            rw [h1]
            rfl
      | .array n e, hE, hu =>
        simp only at hE
        cases hp : szOf T e with
        | none => rw [hp] at hE; simp at hE
        | some s =>
          rw [hp] at hE
          simp only at hE
          cases hfl : fillV (fun i => some (i * s, s)) (evalP F ps.toList) (vcells z) with
          | none => rw [hfl] at hE; simp at hE
          | some l =>
            rw [hfl] at hE
            simp only [Option.some.injEq, OR.val.injEq] at hE
            obtain ⟨rfl, rfl⟩ := hE
            obtain ⟨r', h1, h2⟩ := fillV_run hC.one hps hzv hfl
            refine Done.same hA (v' := .agg ⟨r'⟩) ?_ (.agg h2)
            simp only [execOp, ho, Instr.build, Sem.run_bind, run_zero hC.tabs hz, Result.andThen_ok, run_under hC.tabs hu, run_size hC.tabs hp, hmap]
            rw [show (⟨z.cells.toList⟩ : Array Value) = z.cells from rfl] at h1
            rw [h1]
            rfl

include hC in
theorem val_field {t : TypeId} {x : Operand} {i : Nat} (ho : o.op = .field t x i) : Done P T env o ρ H a w v H' := by
  rw [ho] at hE hB
  simp only [evOp, ev_field] at hE
  simp [opB, Op.operands] at hB
  have hx := evalO_ok hA.fr hA.fx hB
  cases hu : under T t with
  | none => rw [hu] at hE; simp at hE
  | some d =>
    rw [hu] at hE
    match d, hE, hu with
    | .struct fs, hE, hu =>
      simp only [nth_eq] at hE
      cases hf : fs.toList[i]? with
      | none => rw [hf] at hE; simp at hE
      | some f =>
        rw [hf] at hE
        match hv : evalO F x, hE with
        | .agg ⟨cs⟩, hE =>
          rw [hv] at hx
          generalize he : a.eval x = x' at hx
          cases hx with
          | @agg _ cs' hcs =>
            simp only at hE
            cases hp : partV T f.type cs f.offset with
            | none => rw [hp] at hE; simp [rv] at hE
            | some u =>
              rw [hp] at hE
              simp only [rv, Option.some.injEq, OR.val.injEq] at hE
              obtain ⟨rfl, rfl⟩ := hE
              obtain ⟨u', h1, h2⟩ := partV_run hC.tabs hp hcs w
              rw [Array.getElem?_toList] at hf
              refine Done.same hA ?_ h2
              simp [execOp, ho, he, Instr.field, run_under hC.tabs hu, hf, asAgg, h1]

include hC in
theorem val_fieldAddr {t : TypeId} {x : Operand} {i : Nat} (ho : o.op = .fieldAddr t x i) : Done P T env o ρ H a w v H' := by
  rw [ho] at hE hB
  simp only [evOp, ev_fieldAddr] at hE
  simp [opB, Op.operands] at hB
  have hx := evalO_ok hA.fr hA.fx hB
  cases hu : under T t with
  | none => rw [hu] at hE; simp at hE
  | some d =>
    rw [hu] at hE
    match d, hE, hu with
    | .struct fs, hE, hu =>
      simp only [nth_eq] at hE
      cases hf : fs.toList[i]? with
      | none => rw [hf] at hE; simp at hE
      | some f =>
        rw [hf] at hE
        match hv : evalO F x, hE with
        | .pointer (some ad), hE =>
          rw [hv] at hx
          generalize he : a.eval x = x' at hx
          cases hx with
          | @ptr b off l e =>
            simp only at hE
            cases hs : szOf T f.type with
            | none => rw [hs] at hE; simp at hE
            | some s =>
              rw [hs] at hE
              simp only [cond_eq, Nat.beq_eq] at hE
              split at hE
              · cases hE
              · rename_i hs0
                simp only [Option.some.injEq, OR.val.injEq] at hE
                obtain ⟨rfl, rfl⟩ := hE
                rw [Array.getElem?_toList] at hf
                refine Done.same hA ?_ (VR.ptr (o := off + f.offset) e)
                simp [execOp, ho, he, Instr.fieldAt, run_under hC.tabs hu, hf, Instr.sureAddr, fieldPlace, run_size hC.tabs hs, hs0, add_plain, Nat.add_assoc]

include hC in
theorem val_indexAddr {t : TypeId} {x y : Operand} (ho : o.op = .indexAddr t x y) : Done P T env o ρ H a w v H' := by
  rw [ho] at hE hB
  simp only [evOp, ev_indexAddr] at hE
  simp [opB, Op.operands] at hB
  have hx := evalO_ok hA.fr hA.fx hB.1
  have hy := evalO_ok hA.fr hA.fx hB.2
  match hi : evalO F y, hE with
  | .int k (.ofNat i), hE =>
    rw [hi] at hy
    generalize hye : a.eval y = y' at hy
    cases hy
    simp only at hE
    cases hu : under T t with
    | none => rw [hu] at hE; simp at hE
    | some d =>
      rw [hu] at hE
      match d, hE, hu with
      | .array n e, hE, hu =>
        match hv : evalO F x, hE with
        | .pointer (some ad), hE =>
          rw [hv] at hx
          generalize he : a.eval x = x' at hx
          cases hx with
          | @ptr b off l e' =>
            simp only at hE
            cases hs : szOf T e with
            | none => rw [hs] at hE; simp at hE
            | some s =>
              rw [hs] at hE
              simp only [cond_eq] at hE
              split at hE
              · rename_i hlt
                have hlt' : i < n := by have : i + 1 ≤ n := (by simpa [Nat.blt] using hlt); exact this
                simp only [Option.some.injEq, OR.val.injEq] at hE
                obtain ⟨rfl, rfl⟩ := hE
                refine Done.same hA ?_ (VR.ptr (o := off + i * s) e')
                simp [execOp, ho, he, hye, Instr.indexAt, asIntOf, run_under hC.tabs hu, Instr.sureAddr, run_size hC.tabs hs, hlt', add_plain, Nat.add_assoc]
              · cases hE
      | .slice e, hE, hu =>
        match hv : evalO F x, hE with
        | .slice (some ad) n c, hE =>
          rw [hv] at hx
          generalize he : a.eval x = x' at hx
          simp only at hE
          cases hs : szOf T e with
          | none => rw [hs] at hE; simp at hE
          | some s =>
            rw [hs] at hE
            simp only [cond_eq] at hE
            split at hE
            · rename_i hlt
              have hlt' : i < n := by have : i + 1 ≤ n := (by simpa [Nat.blt] using hlt); exact this
              simp only [Option.some.injEq, OR.val.injEq] at hE
              obtain ⟨rfl, rfl⟩ := hE
              cases hx with
              | @sl b off l _ _ e' _ =>
                refine Done.same hA ?_ (VR.ptr (o := off + i * s) e')
                simp [execOp, ho, he, hye, Instr.indexAt, asIntOf, run_under hC.tabs hu, run_size hC.tabs hs, hlt', add_plain, Nat.add_assoc]
              | @slo b off l _ _ _ e' _ =>
                refine Done.same hA ?_ (VR.ptr (o := off + i * s) e')
                simp [execOp, ho, he, hye, Instr.indexAt, asIntOf, run_under hC.tabs hu, run_size hC.tabs hs, hlt', add_plain, Nat.add_assoc]
            · cases hE

include hC in
theorem val_index {t : TypeId} {x y : Operand} (ho : o.op = .index t x y) : Done P T env o ρ H a w v H' := by
  rw [ho] at hE hB
  simp only [evOp, ev_index] at hE
  simp [opB, Op.operands] at hB
  have hx := evalO_ok hA.fr hA.fx hB.1
  have hy := evalO_ok hA.fr hA.fx hB.2
  match hi : evalO F y, hE with
  | .int k (.ofNat i), hE =>
    rw [hi] at hy
    generalize hye : a.eval y = y' at hy
    cases hy
    simp only at hE
    cases hu : under T t with
    | none => rw [hu] at hE; simp at hE
    | some d =>
      rw [hu] at hE
      match d, hE, hu with
      | .array n e, hE, hu =>
        match hv : evalO F x, hE with
        | .agg ⟨cs⟩, hE =>
          rw [hv] at hx
          generalize he : a.eval x = x' at hx
          cases hx with
          | @agg _ cs' hcs =>
            simp only at hE
            cases hs : szOf T e with
            | none => rw [hs] at hE; simp at hE
            | some s =>
              rw [hs] at hE
              simp only [cond_eq] at hE
              split at hE
              · rename_i hlt
                have hlt' : i < n := by have : i + 1 ≤ n := (by simpa [Nat.blt] using hlt); exact this
                cases hp : partV T e cs (i * s) with
                | none => rw [hp] at hE; simp [rv] at hE
                | some u =>
                  rw [hp] at hE
                  simp only [rv, Option.some.injEq, OR.val.injEq] at hE
                  obtain ⟨rfl, rfl⟩ := hE
                  obtain ⟨u', h1, h2⟩ := partV_run hC.tabs hp hcs w
                  refine Done.same hA ?_ h2
                  simp [execOp, ho, he, hye, Instr.index, asIntOf, run_under hC.tabs hu, run_size hC.tabs hs, hlt', h1]
              · cases hE
      | .string, hE, hu =>
        match hv : evalO F x, hE with
        | .string s, hE =>
          rw [hv] at hx
          generalize he : a.eval x = x' at hx
          cases hx
          simp only [nth_eq] at hE
          cases hn : (sL s)[i]? with
          | none => rw [hn] at hE; simp at hE
          | some b =>
            rw [hn] at hE
            simp only [Option.some.injEq, OR.val.injEq] at hE
            obtain ⟨rfl, rfl⟩ := hE
            have hb : s[i]? = some b := by
              unfold sL at hn
              rw [Array.getElem?_toList] at hn
              have hlt : i < s.size := (Array.getElem?_eq_some_iff.1 hn).1
              rw [getElem?_pos s i hlt]
              have := (Array.getElem?_eq_some_iff.1 hn).2
              exact congrArg some this
            refine Done.same hA ?_ (.int _ _)
            simp [execOp, ho, he, hye, Instr.index, asIntOf, run_under hC.tabs hu, hb]
end
end
end Go.Proofs.Ytddknmgajacofaa.Ev

/-
  An evaluator of Go code on closed data: operations, third part: equality, conversions, making, slicing.
-/
namespace Go.Proofs.Ytddknmgajacofaa.Ev
open Go

section
variable {P : Program} {T : TT TypeInfo} {env : Nat → Value} {G : Nat} {ρ : Ren} {F : Fr} {H H' : HS} {a : Act} {w : World} {v : Value} {o : Oper}

theorem under_find {t : TypeId} {d : TypeDesc} (h : under T t = some d) : ∃ i, T.find t = some i := by
  unfold under at h
  cases hi : T.find t with
  | none => rw [hi] at h; simp at h
  | some i => exact ⟨i, rfl⟩
theorem szOf_cells (hT : Tabs P T) {t : TypeId} {n : Nat} (h : szOf T t = some n) : (∃ i, P.info? t = some i) ∧ P.cellsOf t = n := by
  unfold szOf at h
  cases hi : T.find t with
  | none => rw [hi] at h; simp at h
  | some i => rw [hi] at h; simp at h; have := hT.ty t i hi; exact ⟨⟨i, this⟩, by simp [Program.cellsOf, this, h]⟩

theorem guardF_ok (hT : Tabs P T) : ∀ (d : Nat) (t : TypeId), guardF T d t = true → ∀ D, P.eqGuardType (D + d) t = false := by
  intro d
  induction d with
  | zero => intro t h; simp [guardF] at h
  | succ d ih =>
    intro t h D
    unfold guardF at h
    rw [show D + (d + 1) = (D + d) + 1 by omega]
    unfold Program.eqGuardType
    cases hu : under T t with
    | none => rw [hu] at h; simp at h
    | some k =>
      rw [hu] at h
      rw [under_some hT hu]
      match k, h with
      | .struct fs, h =>
        simp only [List.all_eq_true] at h
        simp only [Array.any_eq_false']
        intro f hf
        have := ih f.type (h f (by simpa using hf)) D
        simp [this]
      | .array _ e, h => exact ih e h D
      | .bool, _ | .int _, _ | .float _, _ | .complex _, _ | .string, _ | .unsafePointer, _ | .pointer _, _ | .slice _, _ | .map _ _, _ | .chan _ _, _ | .func _ _ _, _ | .tuple _, _ | .named _ _, _ | .invalid, _ => rfl

set_option maxHeartbeats 4000000 in
theorem eq_run (hT : Tabs P T) : ∀ (d : Nat) (t : TypeId) (x y x' y' : Value) (b : Bool), eqT T d t x y = some b → VR ρ env x x' → VR ρ env y y' → ∀ D w, (Op.equalIn (D + d) t x' y').run P w = .ok b w := by
  intro d
  induction d with
  | zero => intro t x y x' y' b h; simp [eqT] at h
  | succ d ih =>
    intro t x y x' y' b h hx hy D w
    rw [show D + (d + 1) = (D + d) + 1 by omega]
    unfold eqT at h
    cases hu : under T t with
    | none => rw [hu] at h; simp at h
    | some k =>
      rw [hu] at h
      have hU := under_some hT hu
      have hr := fun w => run_underlying hU w
      have fin : ∀ {c : Bool}, some c = some b → (Op.equalIn (D + d + 1) t x' y').run P w = .ok c w → (Op.equalIn (D + d + 1) t x' y').run P w = .ok b w := fun hc hh => by
        rw [hh, Option.some.inj hc]
      cases k with
      | bool =>
        simp only at h
        split at h
        · cases hx; cases hy
          rename_i p q
          refine fin h ?_
          cases p <;> cases q <;> simp [Op.equalIn, hr]
        · cases h
      | int kk =>
        simp only at h
        split at h
        · cases hx; cases hy
          simp only [cond_eq] at h
          split at h
          · rename_i hk
            rw [kEq_iff] at hk
            subst hk
            exact fin h (by simp [Op.equalIn, hr, ieq_eq])
          · cases h
        · cases h
      | string =>
        simp only at h
        split at h
        · cases hx; cases hy
          exact fin h (by simp [Op.equalIn, hr, beqL_eq, beq_toListBytes, sL_eq])
        · cases h
      | pointer _ =>
        simp only at h
        split at h
        · cases hx; cases hy
          exact fin h (by simp [Op.equalIn, hr])
        · cases hx; cases hy
          exact fin h (by simp [Op.equalIn, hr])
        · cases hx; cases hy
          exact fin h (by simp [Op.equalIn, hr])
        · cases h
      | slice _ =>
        simp only at h
        split at h
        · cases hx; cases hy
          exact fin h (by simp [Op.equalIn, hr])
        · cases hx; cases hy <;> exact fin h (by simp [Op.equalIn, hr])
        · cases hy; cases hx <;> exact fin h (by simp [Op.equalIn, hr])
        · cases h
      | map _ _ =>
        simp only at h
        split at h
        · cases hx; cases hy
          exact fin h (by simp [Op.equalIn, hr])
        · cases hx; cases hy
          exact fin h (by simp [Op.equalIn, hr])
        · cases hx; cases hy
          exact fin h (by simp [Op.equalIn, hr])
        · cases h
      | func _ _ _ =>
        simp only at h
        split at h
        · cases hx; cases hy
          exact fin h (by simp [Op.equalIn, hr])
        · cases hx; cases hy <;> exact fin h (by simp [Op.equalIn, hr])
        · cases hy; cases hx <;> exact fin h (by simp [Op.equalIn, hr])
        · cases h
      | struct fs =>
        simp only at h
        split at h
        rotate_left
        · cases h
        cases hx with
        | @agg xs xs' hxs =>
        cases hy with
        | @agg ys ys' hys =>
        clear fin
        obtain ⟨i, hi⟩ := under_find hu
        have hfo : P.fieldsOf t = fs := by simp [Program.fieldsOf, hU]
        rw [run_equalIn_struct w (D + d) t ⟨xs'⟩ ⟨ys'⟩ (by rw [hfo]; exact hU) (hT.held t i hi), hfo]
        generalize fs.toList = l at h
        clear hfo
        induction l generalizing w with
        | nil => simp [eqFieldsH] at h; subst h; simp [Op.eqFields]
        | cons f l ihl =>
          simp only [eqFieldsH, cond_eq] at h
          split at h
          · cases h
          · rename_i hn
            have hn' : f.name ≠ "_" := by simpa using hn
            cases h1 : partV T f.type xs f.offset with
            | none => rw [h1] at h; simp at h
            | some p =>
              rw [h1] at h
              cases h2 : partV T f.type ys f.offset with
              | none => rw [h2] at h; simp at h
              | some q =>
                rw [h2] at h
                simp only at h
                obtain ⟨p', e1, r1⟩ := partV_run hT h1 hxs w
                obtain ⟨q', e2, r2⟩ := partV_run hT h2 hys w
                cases h3 : eqT T d f.type p q with
                | none => rw [h3] at h; simp at h
                | some c =>
                  rw [h3] at h
                  have e3 := ih f.type p q p' q' c h3 r1 r2 D w
                  cases c with
                  | true =>
                    simp only at h
                    have := ihl w h
                    simp [Op.eqFields, hn', e1, e2, e3, this]
                  | false =>
                    simp at h
                    subst h
                    simp [Op.eqFields, hn', e1, e2, e3]
      | array n e =>
        simp only at h
        split at h
        rotate_left
        · cases h
        cases hx with
        | @agg xs xs' hxs =>
        cases hy with
        | @agg ys ys' hys =>
        clear fin
        cases hs : szOf T e with
        | none => rw [hs] at h; simp at h
        | some s =>
          rw [hs] at h
          simp only at h
          obtain ⟨⟨i, hi⟩, hcs⟩ := szOf_cells hT hs
          rw [run_equalIn_array w (D + d) ⟨xs'⟩ ⟨ys'⟩ hU hi, hcs, List.range_eq_range']
          have gen : ∀ (m k : Nat) (w : World), eqElemsH T (eqT T d) e s xs ys m (k * s) = some b → (Op.eqItems (D + d) e s ⟨xs'⟩ ⟨ys'⟩ (List.range' k m)).run P w = .ok b w := by
            intro m
            induction m with
            | zero => intro k w h; simp [eqElemsH] at h; subst h; simp [Op.eqItems]
            | succ m ihm =>
              intro k w h
              simp only [eqElemsH] at h
              cases h1 : partV T e xs (k * s) with
              | none => rw [h1] at h; simp at h
              | some p =>
                rw [h1] at h
                cases h2 : partV T e ys (k * s) with
                | none => rw [h2] at h; simp at h
                | some q =>
                  rw [h2] at h
                  simp only at h
                  obtain ⟨p', e1, r1⟩ := partV_run hT h1 hxs w
                  obtain ⟨q', e2, r2⟩ := partV_run hT h2 hys w
                  cases h3 : eqT T d e p q with
                  | none => rw [h3] at h; simp at h
                  | some c =>
                    rw [h3] at h
                    have e3 := ih e p q p' q' c h3 r1 r2 D w
                    cases c with
                    | true =>
                      simp only at h
                      have := ihm (k + 1) w (by rw [show (k + 1) * s = k * s + s by rw [Nat.succ_mul]]; exact h)
                      simp [List.range'_succ, Op.eqItems, e1, e2, e3, this]
                    | false =>
                      simp at h
                      subst h
                      simp [List.range'_succ, Op.eqItems, e1, e2, e3]
          exact gen n 0 w (by simpa using h)
      | _ => simp at h

set_option maxHeartbeats 4000000 in
theorem eqGuard_ok (hT : Tabs P T) {t : TypeId} (hg : guardF T eqDepth t = true) {x' y' : Value} (hne : x' ≠ .nilIface) (op : BinOp) (p q : Operand) (w : World) :
    (eqGuard op t p q x' y').run P w = .ok () w := by
  have hd : P.eqGuardType P.depth t = false := by
    have := guardF_ok hT eqDepth t hg (P.depth - eqDepth)
    rwa [show P.depth - eqDepth + eqDepth = P.depth by unfold eqDepth Program.depth Made.depth; omega] at this
  unfold eqGuard
  cases x' <;> cases y' <;> cases op <;> simp [hd] at hne ⊢
/-- Values of which the guard knows nothing. -/
theorem eqGuard_plain {x' y' : Value} (h1 : x' ≠ .nilIface) (h2 : ∀ cs, x' ≠ .agg cs) (op : BinOp) (t : TypeId) (p q : Operand) (w : World) : (eqGuard op t p q x' y').run P w = .ok () w := by
  unfold eqGuard
  cases x' <;> cases y' <;> cases op <;> simp at h1 h2 ⊢
theorem eqT_notNil {d : Nat} {t : TypeId} {y : Value} {b : Bool} : eqT T d t .nilIface y ≠ some b := by
  intro h
  cases d with
  | zero => simp [eqT] at h
  | succ d =>
    unfold eqT at h
    cases hu : under T t with
    | none => rw [hu] at h; simp at h
    | some k => rw [hu] at h; cases k <;> simp at h
end
end Go.Proofs.Ytddknmgajacofaa.Ev

/-
  An evaluator of Go code on closed data: operations, fourth part: binary operations, conversions, making, slicing.
-/
namespace Go.Proofs.Ytddknmgajacofaa.Ev
open Go

section
variable {P : Program} {T : TT TypeInfo} {env : Nat → Value} {G : Nat} {ρ : Ren} {F : Fr} {H H' : HS} {a : Act} {w : World} {v : Value} {o : Oper}

theorem rv_some {x : Option Value} {r : OR} (h : rv x H = some r) : ∃ u, x = some u ∧ r = .val u H := by
  cases x with
  | none => simp [rv] at h
  | some u => simp [rv] at h; exact ⟨u, rfl, h.symm⟩
theorem rvh_some {x : Option (Value × HS)} {r : OR} (h : rvh x = some r) : ∃ u H', x = some (u, H') ∧ r = .val u H' := by
  cases x with
  | none => simp [rvh] at h
  | some p => obtain ⟨u, H'⟩ := p; simp [rvh] at h; exact ⟨u, H', rfl, h.symm⟩
theorem rh_some {x : Option HS} {r : OR} (h : rh x = some r) : ∃ H', x = some H' ∧ r = .val undefV H' := by
  cases x with
  | none => simp [rh] at h
  | some H' => simp [rh] at h; exact ⟨H', rfl, h.symm⟩

theorem intBin_self {op : BinOp} {k : IntKind} {x y : Int} {u : Value} (h : intBin op k x y = some u) : VR ρ env u u := by
  cases op <;> simp only [intBin, cond_eq, Option.some.injEq] at h
  all_goals first
    | (cases h; done)
    | (subst h; first | exact .int _ _ | exact .bool _)
    | (split at h
       · cases h
       · simp only [Option.some.injEq] at h; subst h; exact .int _ _)
theorem shiftBin_self {l : Bool} {k : IntKind} {x y : Int} {u : Value} (h : shiftBin l k x y = some u) : VR ρ env u u := by
  unfold shiftBin at h
  cases y with
  | negSucc m => simp at h
  | ofNat n =>
    cases l
    · cases x <;> simp at h <;> subst h <;> exact .int _ _
    · simp only [cond_eq] at h
      split at h
      · split at h <;> (simp only [Option.some.injEq] at h; subst h; exact .int _ _)
      · rename_i hh; exact absurd trivial hh
theorem strBin_self {op : BinOp} {x y : ByteArray} {u : Value} (h : strBin op x y = some u) : VR ρ env u u := by
  cases op <;> simp only [strBin, cond_eq, Option.some.injEq] at h
  all_goals first
    | (cases h; done)
    | (subst h; first | exact .string _ | exact .bool _)
    | (split at h
       · simp only [Option.some.injEq] at h; subst h; exact .string _
       · cases h)

/-- Values of which only equality is asked. -/
noncomputable def eqHead : Value → Bool
  | .bool _ | .pointer _ | .slice _ _ _ | .map _ | .func _ _ _ | .nilFunc | .agg _ => true
  | _ => false
theorem eqT_head {d : Nat} {t : TypeId} {x y : Value} {b : Bool} (h : eqT T d t x y = some b) : (∃ k n k' m, x = .int k n ∧ y = .int k' m) ∨ (∃ s r, x = .string s ∧ y = .string r) ∨ eqHead x = true := by
  cases d with
  | zero => simp [eqT] at h
  | succ d =>
    unfold eqT at h
    cases hu : under T t with
    | none => rw [hu] at h; simp at h
    | some k =>
      rw [hu] at h
      cases k <;> simp only at h <;> (try (cases h; done)) <;> split at h <;> first
        | (cases h; done)
        | exact .inr (.inr rfl)
        | exact .inl ⟨_, _, _, _, rfl, rfl⟩
        | exact .inr (.inl ⟨_, _, rfl, rfl⟩)
theorem VR.eqHead_ok {x x' : Value} (h : VR ρ env x x') (hx : eqHead x = true) : eqHead x' = true := by cases h <;> first | rfl | simp [eqHead] at hx
theorem run_eql_head {x' y' : Value} (h : eqHead x' = true) (t : TypeId) (w : World) {b : Bool} (hb : (Op.equal t x' y').run P w = .ok b w) : (binOp .eql t x' y').run P w = .ok (.bool b) w := by
  cases x' <;> simp [eqHead] at h <;> simp [binOp, hb]
theorem run_neq_head {x' y' : Value} (h : eqHead x' = true) (t : TypeId) (w : World) {b : Bool} (hb : (Op.equal t x' y').run P w = .ok b w) : (binOp .neq t x' y').run P w = .ok (.bool (!b)) w := by
  cases x' <;> simp [eqHead] at h <;> simp [binOp, hb]

theorem VR.int_inv {k : IntKind} {n : Int} {u : Value} (h : VR ρ env (.int k n) u) : u = .int k n := by cases h; rfl
theorem VR.string_inv {s : ByteArray} {u : Value} (h : VR ρ env (.string s) u) : u = .string s := by cases h; rfl

section
variable (hC : Cx P T env G) (hA : At T env G ρ F H a w) (hf : Free ρ H.n H'.n) (hB : opB G o.op = true) (hE : evOp T o.op F H = some (.val v H'))
include hA hB hE

include hC in
set_option maxHeartbeats 1000000 in
theorem val_binOp {op : BinOp} {t t' : TypeId} {x y : Operand} (ho : o.op = .binOp op t x y t') : Done P T env o ρ H a w v H' := by
  rw [ho] at hE hB
  simp only [evOp, ev_binOp] at hE
  simp [opB, Op.operands] at hB
  have hx := evalO_ok hA.fr hA.fx hB.1
  have hy := evalO_ok hA.fr hA.fx hB.2
  obtain ⟨u, hu, hr⟩ := rv_some hE
  obtain ⟨rfl, rfl⟩ : v = u ∧ H' = H := by simpa using hr
  clear hE hr
  generalize hxe : a.eval x = x' at hx
  generalize hye : a.eval y = y' at hy
  generalize evalO F x = ax at hx hu
  generalize evalO F y = ay at hy hu
  have run : ∀ {r : Value}, (eqGuard op t x y x' y').run P w = .ok () w → (binOp op t x' y').run P w = .ok r w → (execOp a.eval o).run P w = .ok (.value r) w := by
    intro r h1 h2
    simp [execOp, ho, hxe, hye, h1, h2]
  unfold binV at hu
  split at hu
  · -- numbers
    rename_i k p k' q
    have e1 := hx.int_inv
    have e2 := hy.int_inv
    subst e1; subst e2
    have hg : ∀ op, (eqGuard op t x y (.int k p) (.int k' q)).run P w = .ok () w := fun op => eqGuard_plain (by simp) (by simp) op t x y w
    split at hu
    · exact Done.same hA (run (hg _) (shiftBin_run (left := true) w t hu)) (shiftBin_self hu)
    · exact Done.same hA (run (hg _) (shiftBin_run (left := false) w t hu)) (shiftBin_self hu)
    · simp only [cond_eq] at hu
      split at hu
      · rename_i hk
        rw [kEq_iff] at hk
        subst hk
        exact Done.same hA (run (hg _) (intBin_run w t hu)) (intBin_self hu)
      · cases hu
  · rename_i p q
    have e1 := hx.string_inv
    have e2 := hy.string_inv
    subst e1; subst e2
    exact Done.same hA (run (eqGuard_plain (by simp) (by simp) op t x y w) (strBin_run w t hu)) (strBin_self hu)
  · rename_i hni hns
    have fin : ∀ {b : Bool}, guardF T eqDepth t = true → eqT T eqDepth t ax ay = some b → eqHead x' = true ∧ (eqGuard op t x y x' y').run P w = .ok () w ∧ (Op.equal t x' y').run P w = .ok b w := by
      intro b hg he
      have hq := eq_run hC.tabs eqDepth t ax ay x' y' b he hx hy (10000 - eqDepth) w
      rw [show 10000 - eqDepth + eqDepth = 10000 by unfold eqDepth; rfl] at hq
      have hh : eqHead x' = true := by
        rcases eqT_head he with ⟨k, n, k', m, rfl, rfl⟩ | ⟨s, r, rfl, rfl⟩ | h
        · exact absurd rfl (hni _ _ _ _ rfl)
        · exact absurd rfl (hns _ _ rfl)
        · exact hx.eqHead_ok h
      refine ⟨hh, eqGuard_ok hC.tabs hg ?_ op x y w, by unfold Op.equal Op.maxDepth; exact hq⟩
      rintro rfl
      simp [eqHead] at hh
    split at hu
    · simp only [cond_eq] at hu
      split at hu
      · rename_i hg
        cases he : eqT T eqDepth t ax ay with
        | none => rw [he] at hu; simp at hu
        | some b =>
          rw [he] at hu
          simp at hu
          subst hu
          obtain ⟨h0, h1, h2⟩ := fin hg he
          exact Done.same hA (run h1 (run_eql_head h0 t w h2)) (.bool b)
      · cases hu
    · simp only [cond_eq] at hu
      split at hu
      · rename_i hg
        cases he : eqT T eqDepth t ax ay with
        | none => rw [he] at hu; simp at hu
        | some b =>
          rw [he] at hu
          simp at hu
          subst hu
          obtain ⟨h0, h1, h2⟩ := fin hg he
          exact Done.same hA (run h1 (run_neq_head h0 t w h2)) (.bool (!b))
      · cases hu
    · cases hu
end
end
end Go.Proofs.Ytddknmgajacofaa.Ev
