/-
  The lines of a look: what both sides answer; the reference's Text.
-/
import Derived.Test.YtdadfgaomighnaaGreatDoorTextA
import Derived.Test.YtdadfgaomighnaaGreatDoorKeepA
import Derived.Maps.AppendAt
namespace Go.Proofs.YtdadfgaomighnaaGreatDoor
open Go Go.RowKit

/-- A look: its numbers, and the header of what is wrong. -/
structure AuD where
  inc : Int
  first : Int
  last : Int
  check : Int
  pages : Int
  torn : Int
def AuD.ok (a : AuD) : Prop := ((-9223372036854775808 ≤ a.inc ∧ a.inc ≤ 9223372036854775807) ∧ (-9223372036854775808 ≤ a.first ∧ a.first ≤ 9223372036854775807) ∧ (-9223372036854775808 ≤ a.last ∧ a.last ≤ 9223372036854775807)) ∧ (-9223372036854775808 ≤ a.check ∧ a.check ≤ 9223372036854775807) ∧ (-9223372036854775808 ≤ a.pages ∧ a.pages ≤ 9223372036854775807) ∧ (-9223372036854775808 ≤ a.torn ∧ a.torn ≤ 9223372036854775807)
def AuD.cells (a : AuD) (A : Option Addr) (n c : Nat) : Array Value := #[.int .i64 a.inc, .int .i64 a.first, .int .i64 a.last, .int .i64 a.check, .int .i64 a.pages, .int .i64 a.torn, .slice A n c]

def nm0 : ByteArray := (⟨#[111, 112, 101, 110, 101, 100, 32]⟩ : ByteArray)
def nm1 : ByteArray := (⟨#[102, 105, 114, 115, 116, 32]⟩ : ByteArray)
def nm2 : ByteArray := (⟨#[108, 97, 115, 116, 32]⟩ : ByteArray)
def nm3 : ByteArray := (⟨#[99, 104, 101, 99, 107, 112, 111, 105, 110, 116, 32]⟩ : ByteArray)
def nm4 : ByteArray := (⟨#[112, 97, 103, 101, 115, 32]⟩ : ByteArray)
def nm5 : ByteArray := (⟨#[116, 111, 114, 110, 32]⟩ : ByteArray)
def wr1 : ByteArray := (⟨#[119, 114, 111, 110, 103, 58, 32, 97, 32, 112, 97, 103, 101, 32, 105, 115, 32, 97, 104, 101, 97, 100, 32, 111, 102, 32, 116, 104, 101, 32, 108, 111, 103]⟩ : ByteArray)
def wr2 : ByteArray := (⟨#[119, 114, 111, 110, 103, 58, 32, 97, 32, 112, 97, 103, 101, 32, 104, 97, 115, 32, 97, 32, 107, 101, 121, 32, 111, 102, 32, 97, 110, 111, 116, 104, 101, 114, 32, 111, 110, 101]⟩ : ByteArray)
def wr3 : ByteArray := (⟨#[119, 114, 111, 110, 103, 58, 32, 97, 32, 99, 104, 101, 99, 107, 112, 111, 105, 110, 116, 32, 116, 104, 97, 116, 32, 99, 97, 110, 39, 116, 32, 98, 101, 32, 114, 101, 97, 100]⟩ : ByteArray)
def wr0 : ByteArray := (⟨#[119, 114, 111, 110, 103, 58, 32, 115, 111, 109, 101, 116, 104, 105, 110, 103, 32, 101, 108, 115, 101]⟩ : ByteArray)
def none0 : ByteArray := (⟨#[110, 111, 116, 104, 105, 110, 103, 32, 105, 115, 32, 119, 114, 111, 110, 103]⟩ : ByteArray)
/-- What is said of a number. -/
def wrongB (n : Int) : ByteArray := if n = 1 then wr1 else if n = 2 then wr2 else if n = 3 then wr3 else wr0
def heads (a : AuD) : List ByteArray := [nm0 ++ itoaB a.inc, nm1 ++ itoaB a.first, nm2 ++ itoaB a.last, nm3 ++ itoaB a.check, nm4 ++ itoaB a.pages, nm5 ++ itoaB a.torn]
def linesOf (a : AuD) (ns : List Int) : List ByteArray := heads a ++ ns.map wrongB ++ (if ns.length = 0 then [none0] else [])
def strV (l : List ByteArray) : List Value := l.map Value.string
theorem strV_append (l k : List ByteArray) : strV (l ++ k) = strV l ++ strV k := by simp [strV]
abbrev IntsE := Els 1 (fun n : Int => [Value.int .i64 n])

theorem info_str : (Tryz.prog.info? 9).map (fun i => (i.zero, i.size, i.bytes)) = some (some (.string ⟨#[]⟩), 1, 16) := by kernel_rfl
/-- append of one string to an own row. -/
theorem run_append_str (W : World) (base : Nat) (v : Value) (n : Nat) (l : List ByteArray) (s : ByteArray) (hrow : W.ownsRow base 9 1 v n (strV l)) (hn : n ≤ 1000) (hb : base ≤ W.heap.size) :
    ∃ A c w', (Builtin.append_ #[27, 27] 27 #[v, .slice (some ⟨W.heap.size, 0, none⟩) 1 1]).run Tryz.prog (W.alloc (.cells #[.string s] 9)) = .ok (.slice A (n + 1) c) w' ∧
      w'.ownsRow base 9 1 (.slice A (n + 1) c) (n + 1) (strV (l ++ [s])) ∧ Below base W w' ∧ ∀ g t cs, Blk W g t cs → t ≠ 9 → Blk w' g t cs := by
  obtain ⟨i, hi, hz, hs, hb'⟩ := info_parts info_str
  obtain ⟨v', w', hrun, ho, hg, _, hown⟩ := run_append_own_at (P := Tryz.prog) (W.alloc (.cells #[.string s] 9)) base 27 27 9 i _ 1 16 Tryz.underlying27 hi hz hs hb' rfl (by omega) _ n (strV l) (hrow.alloc _)
    ⟨W.heap.size, 0, none⟩ 1 1 [.string s] rfl (fun j u hj => by
      have hj' : j < 1 := (List.getElem?_eq_some_iff.1 hj).1
      obtain rfl : j = 0 := by omega
      have e : (⟨W.heap.size, 0, none⟩ : Addr).add 0 = ⟨W.heap.size, 0, none⟩ := by unfold Addr.add; split <;> simp_all
      rw [e, (Blk.new W _ _).cell 0]
      simpa using hj) (fun u hu => by
      simp only [List.mem_cons, List.not_mem_nil, or_false] at hu
      subst hu; rfl) (by simp only [maxLen]; omega) (by omega) (by simp; omega)
  obtain ⟨A, c, rfl⟩ := own_form ho
  have hu := ((Upd.refl _ W).alloc (.cells #[.string s] 9)).grown (F := fun k => v.ownBlock = some k) hg fun k hk _ => hk
  refine ⟨A, c, w', hrun, by rw [strV_append]; exact ho, ⟨hu.os, hu.tape, hu.output, hu.size, fun k hk => hu.block k (by omega) fun he => ?_⟩, fun g t cs hB hne => hB.upd hu fun he => ?_⟩
  · have := (hrow.lt k he).1; omega
  · exact own_blk_ne hrow hB (Ne.symm hne) he

set_option maxRecDepth 100000
set_option maxHeartbeats 2000000 in
theorem refWrong_ok (n : Int) (w : World) : Calls Tryz.prog 19 #[.int .i64 n] w fun e w' => e = .returned (.string (wrongB n)) ∧ w = w' := by
  by_cases h1 : n = 1
  · subst h1
    go_enter Tryz.func19, Tryz.ntmps19
    go_wp2
    go_ret
    exact ⟨rfl, rfl⟩
  by_cases h2 : n = 2
  · subst h2
    go_enter Tryz.func19, Tryz.ntmps19
    go_wp2
    go_ret
    exact ⟨rfl, rfl⟩
  by_cases h3 : n = 3
  · subst h3
    go_enter Tryz.func19, Tryz.ntmps19
    go_wp2
    go_ret
    exact ⟨rfl, rfl⟩
  have hw : wrongB n = wr0 := by unfold wrongB; rw [if_neg h1, if_neg h2, if_neg h3]
  rw [hw]
  clear hw
  go_enter Tryz.func19, Tryz.ntmps19
  go_wp2
  go_ret
  exact ⟨rfl, rfl⟩
end Go.Proofs.YtdadfgaomighnaaGreatDoor
