/-
  trothref20.Same: two parcels are the same if all their fields are.
-/
import Derived.Test.YtnlidhclieipiaaNetA
import Derived.Test.YtnlidhclieipiaaSame01
namespace Go.Proofs.Ytnlidhclieipiaa
open Go Go.RowKit

/-- A parcel, as data. -/
structure Pcl where
  frm : Int
  dst : Int
  body : List UInt8
  spoilt : Bool

/-- Its cells, the body lying at v. -/
def Pcl.cells (p : Pcl) (v : Value) : Array Value := #[.int .i64 p.frm, .int .i64 p.dst, v, .bool p.spoilt]
def Pcl.val (p : Pcl) (v : Value) : Value := .agg (p.cells v)

/-- The two are the same. -/
def Pcl.same (p q : Pcl) : Bool := (p.frm == q.frm) && ((p.dst == q.dst) && ((p.spoilt == q.spoilt) && (p.body == q.body)))

theorem Pcl.same_refl (p : Pcl) : p.same p = true := by simp [Pcl.same]
theorem Pcl.same_iff {p q : Pcl} : p.same q = true ↔ p = q := by
  cases p; cases q
  simp only [Pcl.same, Bool.and_eq_true, beq_iff_eq, Pcl.mk.injEq]
  exact ⟨fun ⟨a, b, c, d⟩ => ⟨a, b, d, c⟩, fun ⟨a, b, c, d⟩ => ⟨a, b, d, c⟩⟩

set_option maxHeartbeats 1000000 in
theorem same20 (f t g u : Int) (s r : Bool) (va vb : Value) (la lb : List UInt8) (w : World) (ha : Reads w 1 va la.length (bytesV la)) (hb : Reads w 1 vb lb.length (bytesV lb)) (hn : la.length ≤ 9223372036854775806) :
    Calls Try.prog 13 #[.agg #[.int .i64 f, .int .i64 t, va, .bool s], .agg #[.int .i64 g, .int .i64 u, vb, .bool r]] w fun e w' =>
      e = .returned (.bool (Pcl.same ⟨f, t, la, s⟩ ⟨g, u, lb, r⟩)) ∧ Upd Nowhere w w' := by
  obtain ⟨A, ca, rfl, _⟩ := ha.val
  obtain ⟨B, cb, rfl, _⟩ := hb.val
  have HA := Lib.hid ha
  have HB := Lib.hid hb
  clear ha hb
  unfold Pcl.same
  by_cases h1 : f = g
  · subst h1
    by_cases h2 : t = u
    · subst h2
      by_cases h3 : s = r
      · subst h3
        go_enter Try.func13, Try.ntmps13
        go_wp2_with fail
        refine (same01 _ _ la lb _ ((HA.out.alloc _).alloc _) ((HB.out.alloc _).alloc _) hn).mono ?_
        rintro e w1 ⟨rfl, n, rfl⟩
        go_wp2
        go_ret
        exact ⟨ret_bool (by simp), (((Upd.refl _ w).alloc _).alloc _).drewN n⟩
      · have e1 : (s == r) = false := by simpa using h3
        go_enter Try.func13, Try.ntmps13
        go_wp2_with fail
        go_ret
        exact ⟨ret_bool (by simp [e1]), ((Upd.refl _ w).alloc _).alloc _⟩
    · have e1 : (t == u) = false := by simpa using h2
      go_enter Try.func13, Try.ntmps13
      go_wp2_with fail
      go_ret
      exact ⟨ret_bool (by simp [e1]), ((Upd.refl _ w).alloc _).alloc _⟩
  · have e1 : (f == g) = false := by simpa using h1
    go_enter Try.func13, Try.ntmps13
    go_wp2_with fail
    go_ret
    exact ⟨ret_bool (by simp [e1]), ((Upd.refl _ w).alloc _).alloc _⟩
end Go.Proofs.Ytnlidhclieipiaa
