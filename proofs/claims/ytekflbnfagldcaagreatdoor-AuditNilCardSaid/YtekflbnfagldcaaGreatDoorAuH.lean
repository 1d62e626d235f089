/-
  AuditNil: what is carried over the six calls of a look.
-/
import Derived.Test.YtekflbnfagldcaaGreatDoorAuF
import Derived.Laws.ResultCell
import Derived.Laws.Rows
namespace Go.Proofs.YtekflbnfagldcaaGreatDoor
open Go Ev Go.RowKit

theorem res_cell {fn : Func} {p u : Tmp} (h : fn.results = #[.cell p 26, .tmp u]) {tmps : Array Value} {w : World} {g : Nat} {cs : Array Value} (hp : tmps.getD p undef = .pointer (some ⟨g, 0, none⟩)) (hg : Blk w g 26 cs) (hs : cs.size = 7) :
    (results fn tmps).run Tryz.prog w = .ok (.tuple #[.agg cs, tmps.getD u undef]) w := by
  rw [results_cell_tmp h, hp]
  have e := run_loadVar_row w g 26 26 cs _ _ hg Tryz.underlying26 rfl (by rw [hs]; kernel_rfl)
  simp [asAddr, Result.andThen, e]
/-- From w1 to w nothing but the look's core has changed. -/
structure St (g p f : Int) (ρ : Ren) (bx b4 o4 b6 o6 B n : Nat) (pg tn : Value) (w0 w1 w : World) : Prop where
  first : LookP g p f ρ bx b4 o4 b6 o6 B w0 n n pg tn w1
  look : LookP g p f ρ bx b4 o4 b6 o6 B w0 n n pg tn w
  upd : Upd (InCore auB2 ρ) w1 w
  big : B ≤ w1.heap.size
/-- A result's block, made behind w1. -/
structure Fr (ρ : Ren) (w1 w : World) (b : Nat) (cs : Array Value) : Prop where
  blk : Blk w b 26 cs
  out : ¬ InCore auB2 ρ b
  old : w1.heap.size ≤ b
/-- The six calls' results lie in the block. -/
def Met6 (g p f : Int) (ρ : Ren) (bx b4 o4 b6 o6 B n : Nat) (pg tn : Value) (w0 w1 : World) (t : Value) (w : World) : Prop := ∃ b, t = .pointer (some ⟨b, 0, none⟩) ∧ St g p f ρ bx b4 o4 b6 o6 B n pg tn w0 w1 w ∧ Fr ρ w1 w b #[.int .i64 0, .int .i64 1, .int .i64 0, .int .i64 0, .int .i64 0, .int .i64 0, .slice none 0 0]
section
variable {g p f : Int} {ρ : Ren} {bx b4 o4 b6 o6 B n : Nat} {pg tn : Value} {w0 w1 w w' W : World} {cs : Array Value} {b : Nat}
theorem St.begin (h : LookP g p f ρ bx b4 o4 b6 o6 B w0 n n pg tn w) (hB : B ≤ w.heap.size) : St g p f ρ bx b4 o4 b6 o6 B n pg tn w0 w w := ⟨h, h, Upd.refl _ _, hB⟩
theorem St.far (h : St g p f ρ bx b4 o4 b6 o6 B n pg tn w0 w1 w) (hu : Upd Nowhere w w') : St g p f ρ bx b4 o4 b6 o6 B n pg tn w0 w1 w' := ⟨h.first, h.look.far hu, h.upd.trans hu fun _ _ hk => hk.elim, h.big⟩
theorem St.call {args : Array Value} {fn : Nat} {v : Value} (h : St g p f ρ bx b4 o4 b6 o6 B n pg tn w0 w1 w) (hu : Upd Nowhere w W)
    (hc : AuAt g p f auB2 174 ρ W → Calls Tryz.prog fn args W fun e w' => e = .returned v ∧ AuAt g p f auB2 174 ρ w' ∧ Upd (InCore auB2 ρ) W w') :
    Calls Tryz.prog fn args W fun e w' => e = .returned v ∧ St g p f ρ bx b4 o4 b6 o6 B n pg tn w0 w1 w' ∧ Upd (InCore auB2 ρ) W w' := by
  have hf := h.far hu
  refine (hc hf.look.core).mono ?_
  rintro e w' ⟨he, hw, hv⟩
  exact ⟨he, ⟨h.first, hf.look.go hv hw, hf.upd.trans hv fun _ _ h => h, h.big⟩, hv⟩
theorem St.out (h : St g p f ρ bx b4 o4 b6 o6 B n pg tn w0 w1 w) : ¬ InCore auB2 ρ w.heap.size := fun hc => absurd (h.look.core.lt self2 low2 hc) (Nat.lt_irrefl _)
theorem St.fresh (h : St g p f ρ bx b4 o4 b6 o6 B n pg tn w0 w1 w) : Fr ρ w1 (w.alloc (.cells cs 26)) w.heap.size cs := ⟨Blk.new _ _ _, h.out, h.upd.size⟩
theorem Fr.next (h : Fr ρ w1 w b cs) (hu : Upd (InCore auB2 ρ) w w') : Fr ρ w1 w' b cs := ⟨Blk.upd h.blk hu h.out, h.out, h.old⟩
theorem Fr.drew (h : Fr ρ w1 w b cs) : Fr ρ w1 w.drew b cs := ⟨h.blk.drew, h.out, h.old⟩
theorem St.done (h : St g p f ρ bx b4 o4 b6 o6 B n pg tn w0 w1 w) (hf : Fr ρ w1 w b cs) (hu : Upd (fun k => k = b) w w') (hb : Blk w' b 26 #[.int .i64 0, .int .i64 1, .int .i64 0, .int .i64 0, .int .i64 0, .int .i64 0, .slice none 0 0]) :
    Met6 g p f ρ bx b4 o4 b6 o6 B n pg tn w0 w1 (.pointer (some ⟨b, 0, none⟩)) w' := by
  have hB := h.big
  have ho := hf.old
  refine ⟨b, rfl, ⟨h.first, h.look.besides hu ?_, h.upd.trans hu ?_, h.big⟩, hb, hf.out, hf.old⟩
  · rintro k rfl
    refine ⟨hf.out, ?_, fun hk => ?_, fun hk => ?_, by omega⟩
    · have := Blk.lt h.first.blk; omega
    · have := own_lt h.first.pgs hk; omega
    · have := own_lt h.first.tns hk; omega
  · rintro k hk rfl
    omega
theorem St.ne (h : St g p f ρ bx b4 o4 b6 o6 B n pg tn w0 w1 w) (hf : Fr ρ w1 w b cs) : b ≠ bx := by
  have := hf.old
  have := Blk.lt h.first.blk
  omega
theorem St.met_new (h : St g p f ρ bx b4 o4 b6 o6 B n pg tn w0 w1 w) : Met6 g p f ρ bx b4 o4 b6 o6 B n pg tn w0 w1 (.pointer (some ⟨w.heap.size, 0, none⟩)) (w.alloc (.cells #[.int .i64 (IntKind.i64.wrap 0), .int .i64 1, .int .i64 0, .int .i64 0, .int .i64 0, .int .i64 0, .slice none 0 0] 26)) :=
  ⟨_, rfl, h.far ((Upd.refl _ _).alloc _), h.fresh⟩
theorem set1 {a : World} (h : Upd (fun k => k = b) a w) (i : Nat) (u : Value) : Upd (fun k => k = b) a (w.setCell ⟨b, i, none⟩ u) := h.setCell (p := ⟨b, i, none⟩) (fun _ => rfl) u
theorem St.met_old (h : St g p f ρ bx b4 o4 b6 o6 B n pg tn w0 w1 w) (hf : Fr ρ w1 w b #[.int .i64 0, .int .i64 0, .int .i64 0, .int .i64 0, .int .i64 0, .int .i64 0, .slice none 0 0]) : Met6 g p f ρ bx b4 o4 b6 o6 B n pg tn w0 w1 (.pointer (some ⟨b, 0, none⟩))
    (((((((w.setCell ⟨b, 0, none⟩ (.int .i64 (IntKind.i64.wrap 0))).setCell ⟨b, 1, none⟩ (.int .i64 1)).setCell ⟨b, 2, none⟩ (.int .i64 0)).setCell ⟨b, 3, none⟩ (.int .i64 0)).setCell ⟨b, 4, none⟩ (.int .i64 0)).setCell ⟨b, 5, none⟩ (.int .i64 0)).setCell ⟨b, 6, none⟩ (.slice none 0 0)) :=
  h.done hf (set1 (set1 (set1 (set1 (set1 (set1 (set1 (Upd.refl _ w) 0 _) 1 _) 2 _) 3 _) 4 _) 5 _) 6 _)
    (((((((hf.blk.set_ 0 _).set_ 1 _).set_ 2 _).set_ 3 _).set_ 4 _).set_ 5 _).set_ 6 _)
theorem keep_far {w : World} {a p : Addr} {v u : Value} (h : w.cell? a = some v) (hn : p.block ≠ a.block) : (w.setCell p u).cell? a = some v := (World.cell?_setCell_far w p a u hn).trans h
theorem St.torn (h : St g p f ρ bx b4 o4 b6 o6 B n pg tn w0 w1 w) (hu : Upd Nowhere w W) (hg0 : 64 ≤ g) (hg1 : g ≤ 1024) (hp0 : 1 ≤ p) (hp1 : p ≤ 64) (hd : VR ρ (envOf (auSyms g p f [])) d1 (.pointer (some ⟨b4, o4, none⟩))) : Calls Tryz.prog 15 #[.pointer (some ⟨bx, 0, none⟩)] W fun e w' => e = .returned (.int .i64 0) ∧ St g p f ρ bx b4 o4 b6 o6 B n pg tn w0 w1 w' ∧ Upd (InCore auB2 ρ) W w' :=
  h.call hu fun hw => torn_ok hg0 hg1 hp0 hp1 bx _ _ _ b4 o4 _ hw hd (h.look.far hu).blk h.look.nx
variable (hv : VR ρ (envOf (auSyms g p f [])) (.pointer (some ⟨131, 0, none⟩)) (.pointer (some ⟨b6, o6, none⟩))) (h : St g p f ρ bx b4 o4 b6 o6 B n pg tn w0 w1 w) (hu : Upd Nowhere w W)
include hv h hu
theorem St.inc : Calls Tryz.prog 11 #[.pointer (some ⟨b6, o6, none⟩)] W fun e w' => e = .returned (.int .i64 1) ∧ St g p f ρ bx b4 o4 b6 o6 B n pg tn w0 w1 w' ∧ Upd (InCore auB2 ρ) W w' := h.call hu fun hw => inc_ok hw hv
theorem St.fst : Calls Tryz.prog 12 #[.pointer (some ⟨b6, o6, none⟩)] W fun e w' => e = .returned (.int .i64 1) ∧ St g p f ρ bx b4 o4 b6 o6 B n pg tn w0 w1 w' ∧ Upd (InCore auB2 ρ) W w' := h.call hu fun hw => first_ok hw hv
theorem St.last : Calls Tryz.prog 13 #[.pointer (some ⟨b6, o6, none⟩)] W fun e w' => e = .returned (.int .i64 0) ∧ St g p f ρ bx b4 o4 b6 o6 B n pg tn w0 w1 w' ∧ Upd (InCore auB2 ρ) W w' := h.call hu fun hw => last_ok hw hv
theorem St.check : Calls Tryz.prog 14 #[.pointer (some ⟨b6, o6, none⟩)] W fun e w' => e = .returned (.int .i64 0) ∧ St g p f ρ bx b4 o4 b6 o6 B n pg tn w0 w1 w' ∧ Upd (InCore auB2 ρ) W w' := h.call hu fun hw => check_ok hw hv
theorem St.wrong (hp0 : 1 ≤ p) (hp1 : p ≤ 64) (hn : (n : Int) = p) : Calls Tryz.prog 16 #[.pointer (some ⟨bx, 0, none⟩)] W fun e w' => e = .returned (.slice none 0 0) ∧ St g p f ρ bx b4 o4 b6 o6 B n pg tn w0 w1 w' ∧ Upd (InCore auB2 ρ) W w' := by
  have hf := h.far hu
  refine (wrong_ok hp0 hp1 hn _ hf.look hv (Nat.le_trans h.big hf.upd.size)).mono ?_
  rintro e w' ⟨he, hw, hq⟩
  exact ⟨he, ⟨h.first, hw, hf.upd.trans hq fun _ _ h => h, h.big⟩, hq⟩
end
end Go.Proofs.YtekflbnfagldcaaGreatDoor
