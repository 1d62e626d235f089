/-
  An evaluator of Go code on closed data, proved sound: part 3 of 5 (merged by merge.py).
-/
import Derived.Test.YtddknmgajacofaaEvM2
import Derived.Laws.BytesString
import Derived.MapKept
/-
  An evaluator of Go code on closed data: operations, fifth part: conversions, making, slicing.
-/
namespace Go.Proofs.Ytddknmgajacofaa.Ev
open Go

section
variable {P : Program} {T : TT TypeInfo} {env : Nat → Value} {G : Nat} {ρ : Ren} {F : Fr} {H H' : HS} {a : Act} {w : World} {v : Value} {o : Oper}

theorem repL_len {α : Type} (m : Nat) (x : List α) : (repL m x).length = m * x.length := by
  induction m with
  | zero => simp [repL]
  | succ m ih => simp [repL, ih, Nat.succ_mul, Nat.add_comm]
theorem repL_ok {x x' : List Value} (h : VRs ρ env x x') (m : Nat) : VRs ρ env (repL m x) (repL m x') := by
  induction m with
  | zero => exact .nil
  | succ m ih => exact h.append ih
theorem range_rep (zero : Array Value) (m : Nat) : ((Array.range (m * zero.size)).map fun i => zero[i % zero.size]!) = ⟨repL m zero.toList⟩ := by
  apply Array.ext'
  simp only [Array.toList_map, Array.toList_range]
  induction m with
  | zero => simp [repL]
  | succ m ih =>
    rw [Nat.succ_mul, Nat.add_comm, List.range_add, List.map_append, List.map_map, repL]
    congr 1
    · apply List.ext_getElem?
      intro i
      by_cases hi : i < zero.size
      · simp [hi, Nat.mod_eq_of_lt hi]
      · simp [hi]
    · rw [← ih]
      apply List.map_congr_left
      intro i _
      simp
theorem wrap_small {n : Nat} (h : n ≤ 9223372036854775807) : IntKind.i64.wrap (n : Int) = n := by
  rw [← wrapK_eq]
  unfold wrapK uOf ofU kMod kSigned
  simp only [Int.ofNat_eq_natCast]
  have : n % 18446744073709551616 = n := Nat.mod_eq_of_lt (by omega)
  simp only [this]
  have h2 : Nat.ble (18446744073709551616 / 2) n = false := by rw [← Bool.not_eq_true, Nat.ble_eq]; omega
  simp [h2]

theorem info_of {t : TypeId} {n : Nat} (h : byOf T t = some n) : ∃ i, T.find t = some i ∧ i.bytes = n := by
  unfold byOf at h
  cases hi : T.find t with
  | none => rw [hi] at h; simp at h
  | some i => rw [hi] at h; simp at h; exact ⟨i, rfl, h⟩

section
variable (hC : Cx P T env G) (hA : At T env G ρ F H a w) (hf : Free ρ H.n H'.n) (hB : opB G o.op = true) (hE : evOp T o.op F H = some (.val v H'))
include hA hB hE

include hf in
theorem val_makeMap {t : TypeId} {r : Option Operand} (hC : Cx P T env G) (ho : o.op = .makeMap t r) : Done P T env o ρ H a w v H' := by
  rw [ho] at hE hB
  simp only [evOp, ev_makeMap] at hE
  have fin : newV H (.map []) (fun id => .map (some id)) = some (.val v H') → (execOp a.eval o).run P w = .ok (.value (.map (some w.heap.size))) { w with heap := w.heap.push (.map #[] 0) } → Done P T env o ρ H a w v H' := by
    intro hn hrun
    obtain ⟨H1, hn, hr⟩ := newV_some hn
    obtain ⟨rfl, rfl⟩ : v = .map (some H.n) ∧ H' = H1 := by simpa using hr
    have hfr := newO_free hn hf
    refine ⟨bind ρ H.n ⟨w.heap.size, 0, 0⟩, _, _, .inl hrun, .map (bind_self ρ H.n _), Post.new hA.ok hn hfr rfl _ (Nat.le_refl _) (push_upd w _) ?_⟩
    exact ⟨#[], 0, push_new w _, ⟨[], .nil, .nil⟩, trivial, by simp, by simp⟩
  cases r with
  | none => exact fin hE (by simp [execOp, ho, Instr.makeMap])
  | some x =>
    simp [opB, Op.operands] at hB
    have hx := evalO_ok hA.fr hA.fx hB
    simp only at hE
    split at hE
    · rename_i hu hv
      rw [hv] at hx
      refine fin hE ?_
      simp [execOp, ho, Instr.makeMap, run_under hC.tabs hu, hx.int_inv, asInt, asIntOf]
    · cases hE

include hC hf in
theorem val_makeSlice {t : TypeId} {x y : Operand} (ho : o.op = .makeSlice t x y) : Done P T env o ρ H a w v H' := by
  rw [ho] at hE hB
  simp only [evOp, ev_makeSlice] at hE
  simp [opB, Op.operands] at hB
  have hx := evalO_ok hA.fr hA.fx hB.1
  have hy := evalO_ok hA.fr hA.fx hB.2
  split at hE
  rotate_left
  · cases hE
  rename_i e hu
  split at hE
  rotate_left
  · cases hE
  rename_i k n k' m hn hm
  rw [hn] at hx
  rw [hm] at hy
  split at hE
  rotate_left
  · cases hE
  rename_i z s b hz hs hb
  simp only [cond_eq] at hE
  split at hE
  rotate_left
  · cases hE
  rename_i hg
  simp only [Bool.and_eq_true, Nat.ble_eq, Nat.beq_eq, lenL_eq] at hg
  obtain ⟨hnm, hm1, hb1, hzs⟩ := hg
  obtain ⟨H1, hn', hr⟩ := newV_some hE
  obtain ⟨rfl, rfl⟩ : v = .slice (some ⟨H.n, 0, none⟩) n m ∧ H' = H1 := by simpa using hr
  have hzv : VRs ρ env (vcells z) z.cells.toList := (closed_self (ρ := ρ) (hC.zero e z hz)).cells hC.one
  obtain ⟨ρ', h1, h2⟩ := new_cells hA.ok (repL_ok hzv m) hn' hf
  refine ⟨ρ', _, _, .inl ?_, VR.sl (o := 0) n h1 (by unfold OPEN; omega), h2⟩
  obtain ⟨i, hi, rfl⟩ := info_of hb
  have hzs' : z.cells.size = s := by rw [← Array.length_toList, ← vcells_eq, hzs]
  have hbm : i.bytes * m ≤ 281474976710656 := Nat.le_trans (Nat.mul_le_mul hb1 hm1) (by decide)
  have w1 : IntKind.i64.wrap (n : Int) = n := wrap_small (by omega)
  have w2 : IntKind.i64.wrap (m : Int) = m := wrap_small (by omega)
  have hl : decide (((m : Int) < 0)) = false := by simp
  have hbig : decide ((i.bytes : Int) * (m : Int) > 2 ^ 48) = false := by
    rw [decide_eq_false_iff_not, show ((2 : Int) ^ 48) = 281474976710656 from rfl, ← Int.natCast_mul]
    omega
  have c1 : (decide ((n : Int) < 0) || decide ((n : Int) > (m : Int))) = false := by simp; omega
  simp only [execOp, ho, hx.int_inv, hy.int_inv, Instr.makeSlice, Sem.run_bind, run_under hC.tabs hu, Result.andThen_ok, asInt, asIntOf, Sem.run_pure, run_typeInfo_of hC.tabs hi, Int.ofNat_eq_natCast, w1, w2, hl, hbig]
  simp only [Bool.or_false, Int.toNat_natCast, Bool.false_or, c1, Bool.false_eq_true, if_false, Sem.run_bind, Result.andThen_ok, run_askRoom, run_size hC.tabs hs, newRow]
  by_cases h0 : m * s = 0
  · have hnil : repL m z.cells.toList = [] := List.eq_nil_of_length_eq_zero (by rw [repL_len, ← vcells_eq, hzs]; exact h0)
    have hz0 : ∀ f : Nat → Value, Array.map f (Array.range 0) = ⟨[]⟩ := fun f => by apply Array.ext'; simp
    simp [h0, hnil, hz0]
  · rw [if_neg h0]
    simp only [Sem.run_bind, run_zero hC.tabs hz, Result.andThen_ok, Sem.run_pure, run_newObj]
    rw [← hzs', range_rep]

include hC in
theorem val_makeInterface {t : TypeId} {x : Operand} (ho : o.op = .makeInterface t x) : Done P T env o ρ H a w v H' := by
  rw [ho] at hE hB
  simp only [evOp, ev_makeInterface] at hE
  simp [opB, Op.operands] at hB
  have hx := evalO_ok hA.fr hA.fx hB
  split at hE
  · cases hE
  · rename_i d hni hu
    simp only [Option.some.injEq, OR.val.injEq] at hE
    obtain ⟨rfl, rfl⟩ := hE
    refine Done.same hA ?_ (.iface t hx)
    simp only [execOp, ho, Instr.makeInterface, Sem.run_bind, run_under hC.tabs hu, Result.andThen_ok]
    simp
  · cases hE

include hC in
theorem val_typeAssert {x : Operand} {s t : TypeId} {ok : Bool} (ho : o.op = .typeAssert x s t ok) : Done P T env o ρ H a w v H' := by
  rw [ho] at hE hB
  simp only [evOp, ev_typeAssert] at hE
  simp [opB, Op.operands] at hB
  have hx := evalO_ok hA.fr hA.fx hB
  split at hE
  · cases hE
  · rename_i d u y hni hu hv
    rw [hv] at hx
    generalize he : a.eval x = x' at hx
    cases hx with
    | @iface _ _ y' hy =>
      simp only [cond_eq, Nat.beq_eq] at hE
      split at hE
      · rename_i hut
        subst hut
        simp only [Option.some.injEq, OR.val.injEq] at hE
        obtain ⟨rfl, rfl⟩ := hE
        have run : (execOp a.eval o).run P w = .ok (.value (if ok then .tuple #[y', .bool true] else y')) w := by
          simp only [execOp, ho, he, Instr.typeAssert, Sem.run_bind, run_under hC.tabs hu, Result.andThen_ok]
          cases d <;> first
            | (rename_i ms; exact absurd rfl (hni ms))
            | simp
        cases ok with
        | true => exact Done.same hA run (.tuple (.cons hy (.cons (.bool true) .nil)))
        | false => exact Done.same hA run hy
      · cases hE
  · cases hE
end
end
end Go.Proofs.Ytddknmgajacofaa.Ev

/-
  An evaluator of Go code on closed data: operations, sixth part: conversions, slices of slices, slices that are built.
-/
namespace Go.Proofs.Ytddknmgajacofaa.Ev
open Go

section
variable {P : Program} {T : TT TypeInfo} {env : Nat → Value} {G : Nat} {ρ : Ren} {F : Fr} {H H' : HS} {a : Act} {w : World} {v : Value} {o : Oper}

theorem bytesOf_ok : ∀ {l l' : List Value} {bs : List UInt8}, bytesOf l = some bs → VRs ρ env l l' → ∃ ns : List Int, l' = ns.map (Value.int .u8) ∧ bs = ns.map fun n => UInt8.ofNat n.toNat
  | [], _, bs, h, .nil => by simp [bytesOf] at h; subst h; exact ⟨[], rfl, rfl⟩
  | x :: l, _, bs, h, .cons hx hl => by
    simp only [bytesOf] at h
    split at h
    · rename_i b r hb hr
      simp at h
      subst h
      obtain ⟨ns, rfl, rfl⟩ := bytesOf_ok hr hl
      unfold byteV at hb
      split at hb
      · rename_i n
        simp at hb
        subst hb
        cases hx
        exact ⟨(n : Int) :: ns, rfl, by simp⟩
      · cases hb
    · cases h
theorem foldl_push (ns : List Int) : ∀ s : ByteArray, ns.foldl (fun r n => r.push (UInt8.ofNat n.toNat)) s = mkS (sL s ++ ns.map fun n => UInt8.ofNat n.toNat) := by
  induction ns with
  | nil => intro s; simp [mkS, sL]
  | cons n ns ih =>
    intro s
    rw [List.foldl_cons, ih]
    congr 1
    simp [sL]

theorem cut_ge (need old : Nat) (e : TypeId) (t : Nat) : need ≤ (Question.appendCap need old e).cut t := by simp [Question.cut]

section
variable (hC : Cx P T env G) (hA : At T env G ρ F H a w) (hf : Free ρ H.n H'.n) (hB : opB G o.op = true) (hE : evOp T o.op F H = some (.val v H'))
include hA hB hE

include hC hf in
set_option maxHeartbeats 1000000 in
theorem val_convert {src dst : TypeId} {x : Operand} (ho : o.op = .convert src dst x) : Done P T env o ρ H a w v H' := by
  rw [ho] at hE hB
  simp only [evOp, ev_convert] at hE
  simp [opB, Op.operands] at hB
  have hx := evalO_ok hA.fr hA.fx hB
  split at hE
  rotate_left
  · cases hE
  rename_i sd dd hs hd
  have rs := run_under hC.tabs hs
  have rd := run_under hC.tabs hd
  split at hE
  · rename_i k k' n hv
    rw [hv] at hx
    simp only [Option.some.injEq, OR.val.injEq] at hE
    obtain ⟨rfl, rfl⟩ := hE
    refine Done.same hA ?_ (.int _ _)
    simp only [execOp, ho, hx.int_inv, convert, Sem.run_bind, rs, rd, Result.andThen_ok]
    cases sd <;> simp [Conv.intToInt, wrapK_eq]
  · rename_i s hv
    rw [hv] at hx
    simp only [Option.some.injEq, OR.val.injEq] at hE
    obtain ⟨rfl, rfl⟩ := hE
    refine Done.same hA ?_ (.string _)
    simp only [execOp, ho, hx.string_inv, convert, Sem.run_bind, rs, rd, Result.andThen_ok]
    cases sd <;> simp
  · rename_i e s hv
    rw [hv] at hx
    split at hE
    rotate_left
    · cases hE
    rename_i hu hsz
    obtain ⟨H1, hn, hr⟩ := newV_some hE
    obtain ⟨rfl, rfl⟩ : v = .slice (some ⟨H.n, 0, none⟩) (lenL (sL s)) (OPEN + lenL (sL s)) ∧ H' = H1 := by simpa using hr
    have hfr := newO_free hn hf
    generalize hcap : (Question.appendCap s.size 0 e).cut (w.tape w.drawn (.appendCap s.size 0 e)) = cap
    have hge : s.size ≤ cap := hcap ▸ cut_ge _ _ _ _
    have hsl : (sL s).length = s.size := sL_len s
    have helems : (s.data.map fun b => Value.int .u8 b.toNat) = ⟨cellsOfS (sL s)⟩ := by apply Array.ext'; simp [cellsOfS, sL]
    let sp : List Value := List.replicate (cap - s.size) (.int .u8 0)
    let w1 : World := { w with drawn := w.drawn + 1, heap := w.heap.push (.cells ⟨cellsOfS (sL s) ++ sp⟩ e (cap, cap + 1)) }
    have hlen : (cellsOfS (sL s) ++ sp).length = cap := by simp [cellsOfS, sp, hsl]; omega
    refine ⟨bind ρ H.n ⟨w.heap.size, 0, cap - s.size⟩, .slice (some ⟨w.heap.size, 0, none⟩) s.size cap, w1, .inl ?_, ?_, Post.new hA.ok hn hfr rfl _ (Nat.le_refl _) ⟨rfl, rfl, rfl, by simp [w1], fun k hk _ => ?_⟩ ?_⟩
    · have hrun : (Conv.stringToBytes e s).run P w = .ok (.slice (some ⟨w.heap.size, 0, none⟩) s.size cap) w1 := by
        have hq : (Question.appendCap s.size 0 e).forced = false := rfl
        simp only [Conv.stringToBytes, Sem.run_bind, run_choose, hq, Bool.false_eq_true, if_false, Result.andThen_ok, hcap, helems, newRow, run_newObj, Sem.run_pure, markStringish, run_shape]
        have hsh : ∀ (c : Array Value), World.shape? { w with drawn := w.drawn + 1, heap := w.heap.push (.cells c e) } w.heap.size = some (e, c.size) := by intro c; simp [World.shape?]
        have harr : ((⟨cellsOfS (sL s)⟩ : Array Value) ++ Array.replicate (cap - s.size) (Value.int .u8 0)) = ⟨cellsOfS (sL s) ++ sp⟩ := by apply Array.ext'; simp [sp]
        rw [harr]
        simp only [hsh, run_freeze, Result.andThen_ok]
        congr 1
        have hcs : (⟨cellsOfS (sL s) ++ sp⟩ : Array Value).size = cap := hlen
        rw [hcs]
        simp only [World.freeze, w1]
        rw [if_neg (by omega)]
        congr 1
        apply Array.ext_getElem?
        intro j
        rw [Array.getElem?_modify]
        by_cases hj : w.heap.size = j
        · subst hj
          simp
        · have hj' : ¬ j = w.heap.size := fun h => hj h.symm
          simp [hj, hj', Array.getElem?_push]
      simp only [execOp, ho, hx.string_inv, convert, Sem.run_bind, rs, rd, Result.andThen_ok]
      have ru := run_under hC.tabs hu
      cases sd <;> simp [ru, hrun]
    · have := VR.slo (ρ := bind ρ H.n ⟨w.heap.size, 0, cap - s.size⟩) (env := env) (b := H.n) (o := 0) (n := lenL (sL s)) (c' := lenL (sL s)) (bind_self ρ H.n _) rfl
      rw [lenL_eq, hsl] at this ⊢
      have hc : s.size + (cap - s.size) = cap := by omega
      rw [hc] at this
      exact this
    · simp only [w1]
      rw [Array.getElem?_push]
      simp [Nat.ne_of_lt hk]
    · refine ⟨[], cellsOfS (sL s), sp, (cap, cap + 1), by simp [w1], rfl, ?_, .inr ?_, fun _ => ⟨1, hsz, by simp [sp]⟩⟩
      · generalize sL s = l
        induction l with
        | nil => exact .nil
        | cons b l ih => exact .cons (.int _ _) ih
      · simp only [List.length_nil, Nat.zero_add]
        rw [List.length_append] at hlen
        rw [hlen]
  · rename_i e n c hv
    split at hE
    rotate_left
    · cases hE
    rename_i el
    split at hE
    rotate_left
    · cases hE
    rename_i hu
    rw [hv] at hx
    have conv : ∀ (A : Option Addr) (n c : Nat), (convert src dst (.slice A n c)).run P w = (Conv.bytesToString (.slice A n c)).run P w := fun A n c => run_convert_bytes_string w src dst el A n c (under_some hC.tabs hs) (under_some hC.tabs hu) (under_some hC.tabs hd)
    split at hE
    · simp only [Option.some.injEq, OR.val.injEq] at hE
      obtain ⟨rfl, rfl⟩ := hE
      generalize he : a.eval x = x' at hx
      cases hx
      refine Done.same hA ?_ (.string _)
      simp only [execOp, ho, he, Sem.run_bind, conv, Conv.bytesToString, Sem.run_pure, Result.andThen_ok]
      rfl
    · rename_i ad
      split at hE
      rotate_left
      · cases hE
      rename_i l hl
      split at hE
      rotate_left
      · cases hE
      rename_i bs hbs
      simp only [Option.some.injEq, OR.val.injEq] at hE
      obtain ⟨rfl, rfl⟩ := hE
      have key : ∀ (b off : Nat) (lc : Loc) (c' : Nat), ad = ⟨b, off, none⟩ → ρ b = some lc → (Conv.bytesToString (.slice (some ⟨lc.blk, lc.base + off, none⟩) n c')).run P w = .ok (.string (mkS bs)) w := by
        rintro b off lc c' rfl e'
        simp only [cond_eq] at hl
        split at hl
        · rename_i hn0
          rw [Nat.beq_eq] at hn0
          subst hn0
          simp at hl
          subst hl
          simp [bytesOf] at hbs
          subst hbs
          have := run_bytesToString (P := P) w ⟨lc.blk, lc.base + off, none⟩ 0 c' [] (by simp [loadCells, loadCellsFrom])
          rw [this]
          rfl
        · obtain ⟨l', hv', hlen, hc⟩ := getC_run hA.ok hl e'
          obtain ⟨ns, rfl, rfl⟩ := bytesOf_ok hbs hv'
          have hlc := run_loadCells_list (P := P) w _ _ hc
          rw [← hv'.length, hlen] at hlc
          rw [run_bytesToString w _ n c' ns hlc, foldl_push]
          simp [sL]
      generalize he : a.eval x = x' at hx
      cases hx with
      | @sl b off lc _ _ e' _ =>
        refine Done.same hA ?_ (.string _)
        simp only [execOp, ho, he, Sem.run_bind, conv, key b off lc _ rfl e', Sem.run_pure, Result.andThen_ok]
      | @slo b off lc _ _ c' e' _ =>
        refine Done.same hA ?_ (.string _)
        simp only [execOp, ho, he, Sem.run_bind, conv, key b off lc _ rfl e', Sem.run_pure, Result.andThen_ok]
  · cases hE
end
end
end Go.Proofs.Ytddknmgajacofaa.Ev

/-
  An evaluator of Go code on closed data: operations, seventh part: slices of slices, slices that are built, builtins that touch no map.
-/
namespace Go.Proofs.Ytddknmgajacofaa.Ev
open Go

section
variable {P : Program} {T : TT TypeInfo} {env : Nat → Value} {G : Nat} {ρ : Ren} {F : Fr} {H H' : HS} {a : Act} {w : World} {v : Value} {o : Oper}

/-- A bound of a slice expression, in memory. -/
noncomputable def OVR (ρ : Ren) (env : Nat → Value) : Option Value → Option Value → Prop
  | none, none => True
  | some x, some y => VR ρ env x y
  | _, _ => False

theorem bound_run {x : Value} {i y : Nat} {x' : Value} (code : BoundsCode) (hx : VR ρ env x x') (h : bnd (some x) y = some i) (hi : i ≤ y) : (Instr.sliceBound x' y code).run P w = .ok i w := by
  unfold bnd at h
  split at h
  · simp_all
  · rename_i k n hh
    obtain rfl : x = .int k (.ofNat n) := by simpa using hh
    simp at h
    subst h
    have := hx.int_inv
    subst this
    simp [Instr.sliceBound, asIntOf, hi]
  · cases h

theorem bnds_run {len cap l h m : Nat} {lo hi mx lo' hi' mx' : Option Value} (isS : Bool) (h1 : OVR ρ env lo lo') (h2 : OVR ρ env hi hi') (h3 : OVR ρ env mx mx') (hb : bnds len cap lo hi mx = some (l, h, m)) (hmx : mx = none ∨ hi ≠ none) (C : Nat) (hC : cap ≤ C) :
    (Instr.sliceBounds isS len C lo' hi' mx').run P w = .ok (l, h, if mx = none then C else m) w ∧ l ≤ h ∧ h ≤ m ∧ m ≤ cap ∧ (mx = none → m = cap) := by
  unfold bnds at hb
  split at hb
  · cases hb
  rename_i m0 hm
  split at hb
  · cases hb
  rename_i h0 hh
  split at hb
  · cases hb
  rename_i l0 hl
  simp only [cond_eq, Bool.and_eq_true, Nat.ble_eq] at hb
  split at hb
  rotate_left
  · cases hb
  rename_i hle
  obtain ⟨hl1, hl2, hl3⟩ := hle
  simp only [Option.some.injEq, Prod.mk.injEq] at hb
  obtain ⟨rfl, rfl, rfl⟩ := hb
  refine ⟨?_, hl1, hl2, hl3, fun e => by subst e; simp [bnd] at hm; exact hm.symm⟩
  have lowR : ∀ code, (match lo' with | some v => Instr.sliceBound v h0 code | none => (pure 0 : Sem Nat)).run P w = .ok l0 w := by
    intro code
    cases lo with
    | none =>
      cases lo' with
      | some _ => exact h1.elim
      | none => simp [bnd] at hl; subst hl; simp
    | some x =>
      cases lo' with
      | none => exact h1.elim
      | some x' => exact bound_run (y := h0) code h1 (by unfold bnd at hl ⊢; split at hl <;> simp_all) hl1
  cases mx with
  | none =>
    cases mx' with
    | some _ => exact h3.elim
    | none =>
      simp [bnd] at hm
      subst hm
      cases hi with
      | none =>
        cases hi' with
        | some _ => exact h2.elim
        | none =>
          simp [bnd] at hh
          subst hh
          have := lowR .sliceB
          simp only [Instr.sliceBounds, Sem.run_bind, Sem.run_pure, Result.andThen_ok, Option.isSome_none, Bool.false_eq_true, if_false, if_true] at this ⊢
          cases lo' <;> simp_all
      | some y =>
        cases hi' with
        | none => exact h2.elim
        | some y' =>
          have hb1 := bound_run (P := P) (w := w) (y := C) (if isS then .sliceAcap else .sliceAlen) h2 (by unfold bnd at hh ⊢; split at hh <;> simp_all) (Nat.le_trans hl2 hC)
          have := lowR .sliceB
          simp only [Instr.sliceBounds, Sem.run_bind, Sem.run_pure, Result.andThen_ok, hb1, Option.isSome_none, Bool.false_eq_true, if_false, if_true] at this ⊢
          cases lo' <;> simp_all
  | some z =>
    cases mx' with
    | none => exact h3.elim
    | some z' =>
      cases hi with
      | none => simp at hmx
      | some y =>
        cases hi' with
        | none => exact h2.elim
        | some y' =>
          have hb0 := bound_run (P := P) (w := w) (y := C) (if isS then .slice3Acap else .slice3Alen) h3 (by unfold bnd at hm ⊢; split at hm <;> simp_all) (Nat.le_trans hl3 hC)
          have hb1 := bound_run (P := P) (w := w) (y := m0) .slice3B h2 (by unfold bnd at hh ⊢; split at hh <;> simp_all) hl2
          have := lowR .slice3C
          simp only [Instr.sliceBounds, Sem.run_bind, Result.andThen_ok, hb0, hb1, Option.isSome_some, if_true, reduceCtorEq, if_false] at this ⊢
          cases lo' <;> simp_all

theorem evalOp_ok (hF : FrOK ρ env F a.tmps) (hG : Fixed ρ G) {x : Option Operand} (hx : ∀ y, x = some y → operB G y = true) : OVR ρ env (evalOp F x) (x.map a.eval) := by
  cases x with
  | none => trivial
  | some y => exact evalO_ok hF hG (hx y rfl)

/-- A slice of a slice. -/
theorem sliceS_run {s len cap : Nat} {A : Option Addr} {lo hi mx lo' hi' mx' : Option Value} {x' : Value} {t e : TypeId} (hC : Cx P T env G) (hM : Match T env ρ H w) (hf : Free ρ H.n H'.n) (h : sliceS s A len cap lo hi mx H = some (v, H'))
    (hx : VR ρ env (.slice A len cap) x') (h1 : OVR ρ env lo lo') (h2 : OVR ρ env hi hi') (h3 : OVR ρ env mx mx') (hmx : mx = none ∨ hi ≠ none) (hu : under T t = some (.slice e)) (hs : szOf T e = some s) :
    ∃ ρ' v', (Instr.slice t x' lo' hi' mx').run P w = .ok v' w ∧ VR ρ' env v v' ∧ Post T env ρ H w ρ' H' w := by
  have run : ∀ (A' : Option Addr) (C l hh m : Nat), (Instr.sliceBounds true len C lo' hi' mx').run P w = .ok (l, hh, m) w → (Instr.slice t (.slice A' len C) lo' hi' mx').run P w = .ok (.slice (if m = l then A' else A'.map (·.add (l * s))) (hh - l) (m - l)) w := by
    intro A' C l hh m hb
    simp only [Instr.slice, Sem.run_bind, run_under hC.tabs hu, Result.andThen_ok, hb, run_size hC.tabs hs, Sem.run_pure]
  have clos : ∀ (b off : Nat) (lc : Loc), ρ b = some lc → ∀ l hh m, m - l < OPEN → VR ρ env (.slice (some (if Nat.beq m l = true then ⟨b, off, none⟩ else addOff ⟨b, off, none⟩ (l * s))) (hh - l) (m - l))
      (.slice (if m = l then some ⟨lc.blk, lc.base + off, none⟩ else (some (⟨lc.blk, lc.base + off, none⟩ : Addr)).map (·.add (l * s))) (hh - l) (m - l)) := by
    intro b off lc e' l hh m hlt
    by_cases hz : m = l
    · have : Nat.beq m l = true := by rw [Nat.beq_eq]; exact hz
      rw [if_pos this, if_pos hz]
      exact .sl _ e' hlt
    · have : ¬ Nat.beq m l = true := by rw [Nat.beq_eq]; exact hz
      rw [if_neg this, if_neg hz]
      simp only [Option.map_some, add_plain, addOff]
      have := VR.sl (ρ := ρ) (env := env) (b := b) (o := off + l * s) (n := hh - l) e' hlt
      rw [← Nat.add_assoc] at this
      exact this
  unfold sliceS at h
  simp only [cond_eq] at h
  split at h
  · -- room of which nothing is known
    rename_i hop
    have hop' : OPEN ≤ cap := by simpa [isOpen, Nat.ble_eq] using hop
    cases hx with
    | snil _ _ =>
      exfalso
      split at h
      · split at h
        · split at h <;> cases h
        · cases h
      · split at h <;> cases h
    | sl _ _ hc => omega
    | @slo b off lc _ _ c' e' hc =>
      have hcc : cap - OPEN = c' := by omega
      rw [hcc] at h
      split at h
      · -- no max
        split at h
        · rename_i l hh m hb
          obtain ⟨hr, q1, q2, q3, q4⟩ := bnds_run (P := P) (w := w) true h1 h2 h3 hb (.inl rfl) (c' + lc.spare) (by omega)
          have q4' := q4 rfl
          simp only [if_true] at hr
          have hrun := run (some ⟨lc.blk, lc.base + off, none⟩) _ _ _ _ hr
          split at h
          · rename_i hml
            rw [Nat.beq_eq] at hml
            simp only at h
            split at h
            · rename_i hlt
              simp only [Option.some.injEq, Prod.mk.injEq] at h
              obtain ⟨rfl, rfl⟩ := h
              have hfr : ρ H.n = none := hf H.n (Nat.le_refl _) (by simp)
              -- where it lies hangs on whether there is room
              refine ⟨bind ρ H.n ⟨lc.blk, if c' + lc.spare = l then lc.base + off else lc.base + off + l * s, c' + lc.spare - l⟩, _, hrun, ?_, ?_⟩
              · have := VR.slo (ρ := bind ρ H.n ⟨lc.blk, if c' + lc.spare = l then lc.base + off else lc.base + off + l * s, c' + lc.spare - l⟩) (env := env) (b := H.n) (o := 0) (n := hh - l) (c := OPEN) (c' := 0) (bind_self ρ H.n _) rfl
                simp only [Nat.add_zero, Nat.zero_add] at this
                by_cases hz : c' + lc.spare = l
                · simp only [if_pos hz] at this ⊢
                  exact this
                · simp only [if_neg hz, Option.map_some, add_plain] at this ⊢
                  exact this
              · refine ⟨fun id hid => bind_ne ρ _ (by simp at hid; omega), bind_le _ hfr, by simp, ?_, Upd.refl _ w, ?_⟩
                · exact ⟨fun id o ho => let ⟨l', a1, a2⟩ := hM.obj id o ho; ⟨l', bind_le _ hfr _ _ a1, a2.mono (bind_le _ hfr)⟩,
                    fun id id' o o' la lb a1 a2 a3 a4 a5 a6 a7 => by
                      obtain ⟨l1, b1, _⟩ := hM.obj id o a1
                      obtain ⟨l2, b2, _⟩ := hM.obj id' o' a2
                      rw [bind_le _ hfr _ _ b1] at a5
                      rw [bind_le _ hfr _ _ b2] at a6
                      obtain rfl := Option.some.inj a5
                      obtain rfl := Option.some.inj a6
                      exact hM.inj id id' o o' _ _ a1 a2 a3 a4 b1 b2 a7, hM.its, hM.small⟩
                · rintro k ⟨id, o, l', a1, a2, a3, rfl⟩
                  obtain ⟨l1, b1, _⟩ := hM.obj id o a1
                  rw [bind_le _ hfr _ _ b1] at a3
                  obtain rfl := Option.some.inj a3
                  exact .inl ⟨id, o, _, a1, a2, b1, rfl⟩
            · cases h
          · rename_i hml
            rw [Nat.beq_eq] at hml
            simp only [Option.some.injEq, Prod.mk.injEq] at h
            obtain ⟨rfl, rfl⟩ := h
            rw [if_neg (by omega)] at hrun
            refine ⟨ρ, _, hrun, ?_, Post.refl hM⟩
            have := VR.slo (ρ := ρ) (env := env) (b := b) (o := off + l * s) (n := hh - l) (c := OPEN + (m - l)) (c' := m - l) e' rfl
            simp only [Option.map_some, add_plain]
            have e1 : lc.base + (off + l * s) = lc.base + off + l * s := by omega
            have e2 : m - l + lc.spare = c' + lc.spare - l := by omega
            rw [e1, e2] at this
            exact this
        · cases h
      · -- a max
        rename_i mv
        split at h
        · rename_i l hh m hb
          obtain ⟨hr, q1, q2, q3, q4⟩ := bnds_run (P := P) (w := w) true h1 h2 h3 hb hmx (c' + lc.spare) (by omega)
          simp only [reduceCtorEq, if_false] at hr
          have hrun := run (some ⟨lc.blk, lc.base + off, none⟩) _ _ _ _ hr
          simp only at h
          split at h
          · rename_i hO
            have hO' : m + 1 ≤ OPEN := by simpa [Nat.blt, Nat.ble_eq] using hO
            simp only [Option.some.injEq, Prod.mk.injEq] at h
            obtain ⟨rfl, rfl⟩ := h
            exact ⟨ρ, _, hrun, clos b off lc e' l hh m (by omega), Post.refl hM⟩
          · cases h
        · cases h
  · rename_i hop
    have hop' : cap < OPEN := by simpa [isOpen, Nat.ble_eq] using hop
    split at h
    · rename_i l hh m hb
      cases hx with
      | snil _ _ =>
        obtain ⟨hr, q1, q2, q3, q4⟩ := bnds_run (P := P) (w := w) true h1 h2 h3 hb hmx cap (Nat.le_refl _)
        have hm' : (if mx = none then cap else m) = m := by
          split
          · rename_i hz; exact (q4 hz).symm
          · rfl
        rw [hm'] at hr
        have hrun := run none _ _ _ _ hr
        simp only [Option.some.injEq, Prod.mk.injEq] at h
        obtain ⟨rfl, rfl⟩ := h
        refine ⟨ρ, _, hrun, ?_, Post.refl hM⟩
        simp only [Option.map_none, ite_self]
        exact .snil _ _
      | @sl b off lc _ _ e' _ =>
        obtain ⟨hr, q1, q2, q3, q4⟩ := bnds_run (P := P) (w := w) true h1 h2 h3 hb hmx cap (Nat.le_refl _)
        have hm' : (if mx = none then cap else m) = m := by
          split
          · rename_i hz; exact (q4 hz).symm
          · rfl
        rw [hm'] at hr
        have hrun := run (some ⟨lc.blk, lc.base + off, none⟩) _ _ _ _ hr
        simp only [Option.some.injEq, Prod.mk.injEq] at h
        obtain ⟨rfl, rfl⟩ := h
        exact ⟨ρ, _, hrun, clos b off lc e' l hh m (by omega), Post.refl hM⟩
      | @slo _ _ _ _ _ c' _ hc => omega
    · cases h

section
variable (hC : Cx P T env G) (hA : At T env G ρ F H a w) (hf : Free ρ H.n H'.n) (hB : opB G o.op = true) (hE : evOp T o.op F H = some (.val v H'))
include hA hB hE

include hC hf in
theorem val_slice {t : TypeId} {x : Operand} {lo hi mx : Option Operand} (ho : o.op = .slice t x lo hi mx) : Done P T env o ρ H a w v H' := by
  rw [ho] at hE hB
  simp only [evOp, ev_slice] at hE
  simp only [opB, Op.operands, Array.toList_append, List.all_append, Bool.and_eq_true] at hB
  obtain ⟨⟨⟨hBx, hBl⟩, hBh⟩, hBm⟩ := hB
  have hx := evalO_ok hA.fr hA.fx (x := x) (by simpa using hBx)
  have h1 := evalOp_ok hA.fr hA.fx (x := lo) (fun y hy => by subst hy; simpa using hBl)
  have h2 := evalOp_ok hA.fr hA.fx (x := hi) (fun y hy => by subst hy; simpa using hBh)
  have h3 := evalOp_ok hA.fr hA.fx (x := mx) (fun y hy => by subst hy; simpa using hBm)
  have hmx : evalOp F mx = none ∨ evalOp F hi ≠ none := by
    cases mx with
    | none => exact .inl rfl
    | some m => cases hi with
      | none => simp at hE
      | some h => exact .inr (by simp [evalOp])
  have hE' : rvh (sliceV T t (evalO F x) (evalOp F lo) (evalOp F hi) (evalOp F mx) H) = some (.val v H') := by
    cases mx with
    | none => exact hE
    | some m => cases hi with
      | none => simp at hE
      | some h => exact hE
  clear hE
  obtain ⟨u, H1, hs, hr⟩ := rvh_some hE'
  obtain ⟨rfl, rfl⟩ : v = u ∧ H' = H1 := by simpa using hr
  clear hE' hr
  have run : ∀ v' : Value, (Instr.sliceAt t (a.eval x) (lo.map a.eval) (hi.map a.eval) (mx.map a.eval)).run P w = .ok v' w → (execOp a.eval o).run P w = .ok (.value v') w := by
    intro v' h
    simp [execOp, ho, h]
  unfold sliceV at hs
  split at hs
  · -- a string
    rename_i hu
    split at hs
    rotate_left
    · cases hs
    rename_i str hv
    rw [hv] at hx
    split at hs
    rotate_left
    · cases hs
    rename_i hmn
    split at hs
    rotate_left
    · cases hs
    rename_i l h m hb
    split at hs
    rotate_left
    · cases hs
    rename_i r hr
    simp only [Option.some.injEq, Prod.mk.injEq] at hs
    obtain ⟨rfl, rfl⟩ := hs
    rw [lenL_eq] at hb
    have h3' : OVR ρ env none none := trivial
    obtain ⟨hr', q1, q2, q3, q4⟩ := bnds_run (P := P) (w := w) false h1 h2 h3' hb (.inl rfl) (sL str).length (Nat.le_refl _)
    rw [dropN_eq] at hr
    obtain ⟨rfl, hl⟩ := takeN_some hr
    have hmx' : mx = none := by cases mx with | none => rfl | some _ => simp [evalOp] at hmn
    subst hmx'
    have hstr : str.extract l h = mkS (((sL str).drop l).take (h - l)) := by
      apply ByteArray.ext
      simp only [ByteArray.data_extract, mkS]
      apply Array.ext'
      simp [sL, List.extract]
    refine Done.same hA (run (.string (mkS _)) ?_) (.string _)
    rw [sL_len] at hr'
    simp only [if_true] at hr'
    simp [Instr.sliceAt, run_under hC.tabs hu, Instr.slice, hx.string_inv, hr', hstr]
  · -- a slice
    rename_i e hu
    split at hs
    rotate_left
    · cases hs
    rename_i A len cap hv
    rw [hv] at hx
    split at hs
    rotate_left
    · cases hs
    rename_i s hsz
    obtain ⟨ρ', v', r1, r2, r3⟩ := sliceS_run hC hA.ok hf hs hx h1 h2 h3 hmx hu hsz
    refine ⟨ρ', v', w, .inl (run v' ?_), r2, r3⟩
    simp only [Instr.sliceAt, Sem.run_bind, run_under hC.tabs hu, Result.andThen_ok]
    exact r1
  · -- an array
    rename_i n e hu
    split at hs
    rotate_left
    · cases hs
    rename_i ad hv
    rw [hv] at hx
    split at hs
    rotate_left
    · cases hs
    rename_i s hsz
    split at hs
    rotate_left
    · cases hs
    rename_i l h m hb
    simp only [cond_eq] at hs
    split at hs
    rotate_left
    · cases hs
    rename_i hO
    have hO' : n + 1 ≤ OPEN := by simpa [Nat.blt, Nat.ble_eq] using hO
    simp only [Option.some.injEq, Prod.mk.injEq] at hs
    obtain ⟨rfl, rfl⟩ := hs
    obtain ⟨hr', q1, q2, q3, q4⟩ := bnds_run (P := P) (w := w) false h1 h2 h3 hb hmx n (Nat.le_refl _)
    have hm' : (if evalOp F mx = none then n else m) = m := by
      split
      · rename_i hz; exact (q4 hz).symm
      · rfl
    rw [hm'] at hr'
    generalize he : a.eval x = x' at hx
    cases hx with
    | @ptr b off lc e' =>
      refine Done.same hA (run (.slice (some (if m = l then ⟨lc.blk, lc.base + off, none⟩ else (⟨lc.blk, lc.base + off, none⟩ : Addr).add (l * s))) (h - l) (m - l)) ?_) ?_
      · simp [he, Instr.sliceAt, run_under hC.tabs hu, Instr.sureAddr, hr', run_size hC.tabs hsz]
      · have hlt : m - l < OPEN := by omega
        by_cases hz : m = l
        · have hb' : Nat.beq m l = true := by rw [Nat.beq_eq]; exact hz
          rw [if_pos hb', if_pos hz]
          exact .sl _ e' hlt
        · have hb' : ¬ Nat.beq m l = true := by rw [Nat.beq_eq]; exact hz
          rw [if_neg hb', if_neg hz]
          simp only [add_plain, addOff]
          have := VR.sl (ρ := ρ) (env := env) (b := b) (o := off + l * s) (n := h - l) e' hlt
          rw [← Nat.add_assoc] at this
          exact this
  · cases hs
end
end
end Go.Proofs.Ytddknmgajacofaa.Ev

/-
  An evaluator of Go code on closed data: append and copy.
-/
namespace Go.Proofs.Ytddknmgajacofaa.Ev
open Go

section
variable {T : TT TypeInfo} {env : Nat → Value} {ρ : Ren} {H H₁ : HS} {w w₁ : World}
/-- A block gets a new name, and new contents; the old name is worth nothing any more. -/
theorem Post.renew {id : Nat} {o ob : AObj} {l0 l : Loc} (hM : Match T env ρ H w) (h : H.h.find id = some o) (e : ρ id = some l0) (ho : o.owns = true) (hnm : ∀ es, o ≠ .map es) (hn : newO (putO H id none) ob = some H₁) (hf : ρ H.n = none) (hd : ob.dep = none)
    (hl : l.blk = l0.blk) (hu : Upd (· = l0.blk) w w₁) (hob : ObjOK T (bind ρ H.n l) env w₁ ob l) : Post T env ρ H w (bind ρ H.n l) H₁ w₁ := by
  have hle := bind_le l hf
  simp only [newO, cond_eq] at hn
  split at hn
  rotate_left
  · cases hn
  rename_i hlt
  have hlt' : H.n < idMost := by have : H.n + 1 ≤ idMost := (by simpa [Nat.blt, putO] using hlt); exact this
  obtain rfl := Option.some.inj hn
  have hid : id < idMost := hM.small id o h
  have hne : H.n ≠ id := fun hh => by rw [hh, e] at hf; cases hf
  have hnew : (TT.set 40 (TT.set 40 H.h id none) H.n (some ob)).find H.n = some ob := TT.find_set 40 _ _ _ (find_lt hlt')
  have hgone : (TT.set 40 (TT.set 40 H.h id none) H.n (some ob)).find id = none := by rw [TT.find_set_ne 40 _ _ _ _ hne, TT.find_set 40 _ _ _ (find_lt hid)]
  have hold : ∀ j, j ≠ H.n → j ≠ id → (TT.set 40 (TT.set 40 H.h id none) H.n (some ob)).find j = H.h.find j := fun j h1 h2 => by rw [TT.find_set_ne 40 _ _ _ _ (Ne.symm h1), TT.find_set_ne 40 _ _ _ _ (Ne.symm h2)]
  have hnone : ∀ o, H.h.find H.n ≠ some o := fun o h => by obtain ⟨l, e, _⟩ := hM.obj _ o h; rw [hf] at e; cases e
  have hnodep : ∀ z oz, H.h.find z = some oz → oz.dep ≠ some id := by
    intro z oz hz hd
    obtain ⟨_, es, hes⟩ := hM.its z oz id hz hd
    rw [h] at hes
    exact hnm es (Option.some.inj hes)
  have olds : ∀ j oj lj, j ≠ id → H.h.find j = some oj → ρ j = some lj → ObjOK T (bind ρ H.n l) env w₁ oj lj := by
    intro j oj lj hj hf' ej
    obtain ⟨l'', e', hO⟩ := hM.obj j oj hf'
    rw [ej] at e'
    obtain rfl := Option.some.inj e'
    refine (hO.frame (w' := w₁) (fun hown => hu.block _ (hO.lt hown) fun hb => hj (hM.inj j id oj o lj l0 hf' h hown ho ej e hb)) fun m lm hd hlm => ?_).mono hle
    obtain ⟨_, es, hes⟩ := hM.its j oj m hf' hd
    obtain ⟨l3, e3, hO3⟩ := hM.obj m _ hes
    rw [hlm] at e3
    obtain rfl := Option.some.inj e3
    have hm : m ≠ id := fun hh => hnodep j oj hf' (hh ▸ hd)
    exact hu.block _ (hO3.lt rfl) fun hb => hm (hM.inj m id _ o lm l0 hes h rfl ho hlm e hb)
  have conv : ∀ j oj, (TT.set 40 (TT.set 40 H.h id none) H.n (some ob)).find j = some oj → (j = H.n ∧ oj = ob) ∨ (j ≠ H.n ∧ j ≠ id ∧ H.h.find j = some oj) := by
    intro j oj hj
    by_cases h1 : j = H.n
    · subst h1; rw [hnew] at hj; exact .inl ⟨rfl, (Option.some.inj hj).symm⟩
    · by_cases h2 : j = id
      · subst h2; rw [hgone] at hj; cases hj
      · rw [hold j h1 h2] at hj; exact .inr ⟨h1, h2, hj⟩
  have hlive : Live ρ H l0.blk := ⟨id, o, l0, h, ho, e, rfl⟩
  refine ⟨fun j hj => bind_ne ρ l (by simp [putO] at hj; omega), hle, by simp [putO], ⟨?_, ?_, ?_, ?_⟩, hu.mono fun k _ hk => hk ▸ hlive, ?_⟩
  · intro j oj hj
    rcases conv j oj hj with ⟨rfl, rfl⟩ | ⟨h1, h2, h3⟩
    · exact ⟨l, bind_self ρ _ l, hob⟩
    · obtain ⟨lj, ej, _⟩ := hM.obj j oj h3
      exact ⟨lj, hle _ _ ej, olds j oj lj h2 h3 ej⟩
  · intro j j' oj oj' la lb hj hj' o1 o2 ea eb hb
    rcases conv j oj hj with ⟨rfl, rfl⟩ | ⟨h1, h2, h3⟩ <;> rcases conv j' oj' hj' with ⟨rfl, rfl⟩ | ⟨h1', h2', h3'⟩
    · rfl
    · rw [bind_self] at ea
      rw [bind_ne ρ l h1'] at eb
      obtain rfl := Option.some.inj ea
      exact absurd (hM.inj j' id oj' o lb l0 h3' h o2 ho eb e (hb.symm.trans hl)) h2'
    · rw [bind_self] at eb
      rw [bind_ne ρ l h1] at ea
      obtain rfl := Option.some.inj eb
      exact absurd (hM.inj j id oj o la l0 h3 h o1 ho ea e (hb.trans hl)) h2
    · rw [bind_ne ρ l h1] at ea
      rw [bind_ne ρ l h1'] at eb
      exact hM.inj j j' oj oj' la lb h3 h3' o1 o2 ea eb hb
  · intro z oz m hz hdz
    rcases conv z oz hz with ⟨rfl, rfl⟩ | ⟨h1, h2, h3⟩
    · rw [hd] at hdz; cases hdz
    · obtain ⟨a1, es, a2⟩ := hM.its z oz m h3 hdz
      refine ⟨a1, es, ?_⟩
      simp only [putO]
      rw [hold m (fun hh => hnone _ (hh ▸ a2)) (fun hh => hnodep z oz h3 (hh ▸ hdz))]
      exact a2
  · intro j oj hj
    rcases conv j oj hj with ⟨rfl, rfl⟩ | ⟨h1, h2, h3⟩
    · exact hlt'
    · exact hM.small j oj h3
  · rintro k ⟨j, oj, lj, hj, hown, ej, rfl⟩
    rcases conv j oj hj with ⟨rfl, rfl⟩ | ⟨h1, h2, h3⟩
    · rw [bind_self] at ej
      obtain rfl := Option.some.inj ej
      rw [hl]
      exact .inl hlive
    · rw [bind_ne ρ l h1] at ej
      exact .inl ⟨j, oj, lj, h3, hown, ej, rfl⟩
end

section
variable {P : Program} {T : TT TypeInfo} {env : Nat → Value} {G : Nat} {ρ : Ren} {F : Fr} {H H' : HS} {a : Act} {w : World} {v : Value} {o : Oper}

theorem cellsOfS_ok (l : List UInt8) : VRs ρ env (cellsOfS l) (l.map fun b => Value.int .u8 b.toNat) := by
  induction l with
  | nil => exact .nil
  | cons b l ih => exact .cons (.int _ _) ih
theorem firstsV_run (hM : Match T env ρ H w) {s n : Nat} {y y' : Value} {new : List Value} (h : firstsV s n y H = some new) (hy : VR ρ env y y') : ∃ new', VRs ρ env new new' ∧ (Builtin.firstCells s n y').run P w = .ok ⟨new'⟩ w := by
  unfold firstsV at h
  split at h
  · rename_i ad len cap
    have key : ∀ (b off : Nat) (lc : Loc) (c : Nat), ad = ⟨b, off, none⟩ → ρ b = some lc → ∃ new', VRs ρ env new new' ∧ (Builtin.firstCells s n (.slice (some ⟨lc.blk, lc.base + off, none⟩) len c)).run P w = .ok ⟨new'⟩ w := by
      rintro b off lc c rfl e
      simp only [cond_eq, Nat.beq_eq] at h
      split at h
      · rename_i h0
        subst h0
        simp at h
        subst h
        exact ⟨[], .nil, by simp [Builtin.firstCells, loadCells, loadCellsFrom]⟩
      · obtain ⟨l', hv, hl, hc⟩ := getC_run hM h e
        refine ⟨l', hv, ?_⟩
        have := run_loadCells_list (P := P) w _ l' hc
        rw [← hv.length, hl] at this
        simp only [Builtin.firstCells]
        exact this
    cases hy with
    | sl _ e _ => exact key _ _ _ _ rfl e
    | slo _ e _ => exact key _ _ _ _ rfl e
  · simp at h
    subst h
    cases hy
    exact ⟨[], .nil, by simp [Builtin.firstCells]⟩
  · rename_i b
    split at h
    · rename_i l hl
      simp at h
      subst h
      obtain ⟨rfl, hle⟩ := takeN_some hl
      cases hy
      refine ⟨_, cellsOfS_ok _, ?_⟩
      simp only [Builtin.firstCells, Sem.run_pure]
      congr 1
      apply Array.ext'
      simp [sL, ByteArray.data_extract, List.extract]
    · cases h
  · cases h
theorem lenV_run {y y' : Value} {n : Nat} (h : lenV y = some n) (hy : VR ρ env y y') : (Builtin.lenOf y').run P w = .ok n w := by
  unfold lenV at h
  split at h
  · simp at h; subst h; cases hy <;> simp [Builtin.lenOf]
  · simp at h; subst h; cases hy; simp [Builtin.lenOf, lenL_eq, sL_len]
  · cases h

theorem growBy_le (newLen : Nat) : ∀ r c, Builtin.growBy newLen r c ≤ 2 ^ r * (c + 768) := by
  intro r
  induction r with
  | zero => intro c; simp [Builtin.growBy]
  | succ r ih =>
    intro c
    unfold Builtin.growBy
    split
    · have : 1 ≤ 2 ^ (r + 1) := Nat.one_le_two_pow
      calc c ≤ 1 * (c + 768) := by omega
        _ ≤ 2 ^ (r + 1) * (c + 768) := Nat.mul_le_mul_right _ this
    · refine Nat.le_trans (ih _) ?_
      rw [Nat.pow_succ, Nat.mul_assoc]
      exact Nat.mul_le_mul_left _ (by omega)
theorem nextcap_le {need cap : Nat} (h : cap < need) : Builtin.nextslicecap need cap ≤ 16 * (need + 768) := by
  unfold Builtin.nextslicecap
  split
  · omega
  · split
    · omega
    · refine Nat.le_trans (growBy_le _ _ _) ?_
      have : (2 : Nat) ^ 4 = 16 := rfl
      rw [this]
      omega
end
end Go.Proofs.Ytddknmgajacofaa.Ev

/-
  An evaluator of Go code on closed data: append and copy, as they run.
-/
namespace Go.Proofs.Ytddknmgajacofaa.Ev
open Go

section
variable {P : Program} {T : TT TypeInfo} {env : Nat → Value} {G : Nat} {ρ : Ren} {F : Fr} {H H' : HS} {a : Act} {w : World} {v : Value} {o : Oper}

/-- append, with room: the cells are stored. -/
theorem append_in (hC : Cx P T env G) {ts u ty e : TypeId} {s n len cap' : Nat} {A' : Option Addr} {y' : Value} {new' : List Value} (hu : under T ts = some (.slice e)) (hs : szOf T e = some s) {ud : TypeDesc} (huu : under T u = some ud) (hud : ∀ k, ud ≠ .int k)
    (hn : (Builtin.lenOf y').run P w = .ok n w) (hnew : (Builtin.firstCells s n y').run P w = .ok ⟨new'⟩ w) (hle : len + n ≤ cap') {w' : World} (hst : ∀ ad, A' = some ad → (storeCells (ad.add (len * s)) new').run P w = .ok () w') (hst0 : A' = none → w' = w) :
    (Builtin.append_ #[ts, u] ty #[.slice A' len cap', y']).run P w = .ok (.slice A' (len + n) cap') w' := by
  simp only [Builtin.append_, List.getElem?_toArray, List.getElem?_cons_zero, List.getElem?_cons_succ, Sem.run_bind, run_under hC.tabs hu, Result.andThen_ok, run_size hC.tabs hs, run_under hC.tabs huu, Sem.run_pure, Bool.false_eq_true, if_false, hn, if_pos hle, Bool.not_false, if_true, hnew]
  cases A' with
  | none => simp [hst0 rfl]
  | some ad => simp [hst ad rfl]

/-- append, where a new row is made. -/
theorem append_new (hC : Cx P T env G) {ts u ty e : TypeId} {s n len cap' : Nat} {A' : Option Addr} {y' : Value} {new' old' : List Value} {i : TypeInfo} {z : Value} (hu : under T ts = some (.slice e)) (hs : szOf T e = some s) (hi : T.find e = some i) (hb : i.bytes ≤ 1000000) (hzz : zeroOf T e = some z)
    {ud : TypeDesc} (huu : under T u = some ud) (hud : ∀ k, ud ≠ .int k)
    (hn : (Builtin.lenOf y').run P w = .ok n w) (hnew : (Builtin.firstCells s n y').run P { w with drawn := w.drawn + 1 } = .ok ⟨new'⟩ { w with drawn := w.drawn + 1 }) (hold : (Builtin.firstCells s len (.slice A' len cap')).run P { w with drawn := w.drawn + 1 } = .ok ⟨old'⟩ { w with drawn := w.drawn + 1 }) (hle : cap' < len + n) (hmost : len + n ≤ 1000000) :
    ∃ nc, len + n ≤ nc ∧ (Builtin.append_ #[ts, u] ty #[.slice A' len cap', y']).run P w = .ok (.slice (some ⟨w.heap.size, 0, none⟩) (len + n) nc) { w with drawn := w.drawn + 1, heap := w.heap.push (.cells ⟨old' ++ new' ++ repL (nc - (len + n)) z.cells.toList⟩ e) } := by
  refine ⟨(Question.appendCap (len + n) cap' e).cut (w.tape w.drawn (.appendCap (len + n) cap' e)), cut_ge _ _ _ _, ?_⟩
  have h1 : ¬ (((len + n : Nat) : Int) > IntKind.i64.max ∧ (false = true ∨ i.bytes = 0)) := by rw [i64max]; omega
  have h2 : ¬ (Builtin.nextslicecap (len + n) cap' * i.bytes > 2 ^ 48) := by
    have a1 := nextcap_le hle
    have a2 : Builtin.nextslicecap (len + n) cap' * i.bytes ≤ 16 * (len + n + 768) * 1000000 := Nat.mul_le_mul a1 hb
    have a3 : 16 * (len + n + 768) * 1000000 ≤ 16 * (1000000 + 768) * 1000000 := Nat.mul_le_mul_right _ (by omega)
    have a4 : (16 * (1000000 + 768) * 1000000 : Nat) ≤ 2 ^ 48 := by decide
    omega
  have hq : (Question.appendCap (len + n) cap' e).forced = false := rfl
  have hrest : ∀ m, Builtin.zeroCells z.cells m = ⟨repL m z.cells.toList⟩ := fun m => range_rep z.cells m
  simp only [Builtin.append_, List.getElem?_toArray, List.getElem?_cons_zero, List.getElem?_cons_succ, Sem.run_bind, run_under hC.tabs hu, Result.andThen_ok, run_size hC.tabs hs, run_under hC.tabs huu, Sem.run_pure, Bool.false_eq_true, if_false, hn, if_neg (Nat.not_le.2 hle), run_typeInfo_of hC.tabs hi]
  rw [if_neg (by simpa using h1)]
  simp only [Sem.run_bind, Result.andThen_ok, run_typeInfo_of hC.tabs hi]
  rw [if_neg h2]
  simp only [Sem.run_bind, Sem.run_pure, Result.andThen_ok, run_choose, hq, Bool.false_eq_true, if_false, run_typeInfo_of hC.tabs hi, run_askRoom]
  rw [hold]
  simp only [Result.andThen_ok, Bool.not_false, if_true]
  rw [hnew]
  simp only [Result.andThen_ok, run_zero hC.tabs hzz, hrest, newRow, Sem.run_bind, run_newObj, Sem.run_pure]
  simp

theorem growFrom_some {e s cap : Nat} {A : Option Addr} {H1 : HS} (h : growFrom e s A cap H = some H1) : (H1 = H ∧ isOpen cap = false) ∨ ∃ ad cs, A = some ad ∧ isOpen cap = true ∧ H.h.find ad.block = some (.cells cs e true) ∧ ad.off + (cap - OPEN) * s = cs.length ∧ H1 = putO H ad.block none := by
  unfold growFrom at h
  cases A with
  | none =>
    simp only [cond_eq] at h
    split at h
    · cases h
    · rename_i hop; simp at h; exact .inl ⟨h.symm, by simpa using hop⟩
  | some ad =>
    simp only [cond_eq] at h
    split at h
    · rename_i hop
      split at h
      · rename_i cs e' hf
        split at h
        · rename_i hg
          simp only [Bool.and_eq_true, Nat.beq_eq, lenL_eq] at hg
          obtain ⟨rfl, hl⟩ := hg
          simp at h
          exact .inr ⟨ad, cs, rfl, hop, hf, hl, h.symm⟩
        · cases h
      · cases h
    · rename_i hop
      simp at h
      exact .inl ⟨h.symm, by simpa using hop⟩

theorem split_row (pre cs sp : List Value) (off k m : Nat) : pre ++ cs ++ sp = (pre ++ cs.take off ++ (cs.drop off).take k) ++ (cs.drop (off + k) ++ sp).take m ++ (cs.drop (off + k) ++ sp).drop m := by
  rw [List.append_assoc _ ((cs.drop (off + k) ++ sp).take m), List.take_append_drop]
  simp only [List.append_assoc]
  congr 1
  rw [← List.append_assoc ((cs.drop off).take _), ← List.drop_drop, List.take_append_drop, ← List.append_assoc, List.take_append_drop]
theorem isOpen_false {cap : Nat} (h : isOpen cap = false) : ¬ OPEN ≤ cap := by
  intro hh
  unfold isOpen at h
  rw [← Nat.ble_eq] at hh
  rw [hh] at h
  cases h
theorem putO_n (H : HS) (id : Nat) (o : Option AObj) : (putO H id o).n = H.n := rfl

theorem appendV_run (hC : Cx P T env G) (hM : Match T env ρ H w) (hf : Free ρ H.n H'.n) {ts u ty : TypeId} {x y x' y' : Value} (h : appendV T ts x y H = some (v, H')) (hx : VR ρ env x x') (hy : VR ρ env y y') {ud : TypeDesc} (huu : under T u = some ud) (hud : ∀ k, ud ≠ .int k) :
    ∃ ρ' v' w', (Builtin.append_ #[ts, u] ty #[x', y']).run P w = .ok v' w' ∧ VR ρ' env v v' ∧ Post T env ρ H w ρ' H' w' := by
  unfold appendV at h
  split at h
  rotate_left
  · cases h
  rename_i e hu
  split at h
  rotate_left
  · cases h
  rename_i s by_ hs hby
  split at h
  rotate_left
  · cases h
  rename_i A len cap n hn
  split at h
  · cases h
  rename_i new hnew
  have hn' := lenV_run (P := P) (w := w) hn hy
  obtain ⟨new', hvn, hrn⟩ := firstsV_run (P := P) hM hnew hy
  obtain ⟨new2, hvn2, hrn2⟩ := firstsV_run (P := P) hM.drew hnew hy
  simp only [cond_eq, Nat.ble_eq] at h
  split at h
  · -- there is room
    rename_i hle
    unfold appendIn at h
    split at h
    · simp only [Option.some.injEq, Prod.mk.injEq] at h
      obtain ⟨rfl, rfl⟩ := h
      cases hx
      have hc : capKnown cap ≤ cap := by unfold capKnown; rw [cond_eq]; split <;> omega
      exact ⟨ρ, _, w, append_in hC hu hs huu hud hn' hrn (by omega) (fun ad h => by cases h) (fun _ => rfl), .snil _ _, Post.refl hM⟩
    · rename_i ad
      split at h
      rotate_left
      · cases h
      rename_i H1 hset
      simp only [Option.some.injEq, Prod.mk.injEq] at h
      obtain ⟨rfl, rfl⟩ := h
      cases hx with
      | @sl b off lc _ _ e' hc =>
        have hk : capKnown cap = cap := by unfold capKnown; rw [cond_eq, if_neg (by rw [Nat.ble_eq]; omega)]
        obtain ⟨w', r1, r2⟩ := setC_run (P := P) hC.one hM hset hvn e'
        refine ⟨ρ, _, w', append_in hC hu hs huu hud hn' hrn (by omega) (fun ad h => ?_) (fun h => by cases h), .sl _ e' hc, r2⟩
        obtain rfl := Option.some.inj h
        rw [add_plain, Nat.add_assoc]
        exact r1
      | @slo b off lc _ _ c' e' hc =>
        have hk : capKnown cap = c' := by unfold capKnown; rw [cond_eq, if_pos (by rw [Nat.ble_eq]; omega)]; omega
        obtain ⟨w', r1, r2⟩ := setC_run (P := P) hC.one hM hset hvn e'
        refine ⟨ρ, _, w', append_in hC hu hs huu hud hn' hrn (by omega) (fun ad h => ?_) (fun h => by cases h), .slo _ e' hc, r2⟩
        obtain rfl := Option.some.inj h
        rw [add_plain, Nat.add_assoc]
        exact r1
  · -- there may be none
    rename_i hgt
    unfold appendGrow at h
    split at h
    rotate_left
    · cases h
    rename_i z hz
    simp only [cond_eq] at h
    split at h
    rotate_left
    · cases h
    rename_i hg
    simp only [Bool.and_eq_true, Nat.ble_eq, Nat.beq_eq, lenL_eq, appMost] at hg
    obtain ⟨hmost, hb1, hzs, hs0⟩ := hg
    have hs0' : 0 < s := by have : 0 + 1 ≤ s := (by simpa [Nat.blt, Nat.ble_eq] using hs0); omega
    split at h
    · cases h
    rename_i old hold
    split at h
    · cases h
    rename_i H1 hgr
    split at h
    rotate_left
    · cases h
    rename_i H2 hn2
    split at h
    rotate_left
    · cases h
    rename_i hg2
    simp only [Bool.and_eq_true, Nat.beq_eq, lenL_eq] at hg2
    obtain ⟨hone, hlo, hln⟩ := hg2
    simp only [Option.some.injEq, Prod.mk.injEq] at h
    obtain ⟨rfl, rfl⟩ := h
    obtain ⟨i, hi, rfl⟩ := info_of hby
    obtain ⟨old2, hvo2, hro2⟩ := firstsV_run (P := P) hM.drew hold hx
    have hzc : z.cells.toList.length = s := by rw [← vcells_eq]; exact hzs
    have hH1n : H1.n = H.n := by rcases growFrom_some hgr with ⟨rfl, _⟩ | ⟨_, _, _, _, _, _, rfl⟩ <;> rfl
    rw [hH1n]
    have hfr : ρ H.n = none := by
      have h1 : H1.n < H2.n := by
        simp only [newO, cond_eq] at hn2
        split at hn2
        · obtain rfl := Option.some.inj hn2; simp
        · cases hn2
      exact hf H.n (Nat.le_refl _) (by omega)
    -- the old name may be dropped
    have hsub : Post T env ρ H w ρ H1 w := by
      rcases growFrom_some hgr with ⟨rfl, _⟩ | ⟨ad, cs, _, _, hfind, _, rfl⟩
      · exact Post.refl hM
      · have hnd : ∀ z oz, H.h.find z = some oz → oz.dep ≠ some ad.block := by
          intro z oz hz hd
          obtain ⟨_, es, hes⟩ := hM.its z oz ad.block hz hd
          rw [hfind] at hes
          cases hes
        have hsmall := hM.small _ _ hfind
        refine Post.sub hM (fun id o ho => ?_) fun z o m ho hd => ?_
        · by_cases hid : id = ad.block
          · subst hid
            rw [TT.find_set 40 _ _ _ (find_lt hsmall)] at ho
            cases ho
          · rwa [TT.find_set_ne 40 _ _ _ _ (Ne.symm hid)] at ho
        · have hz : H.h.find z = some o := by
            by_cases hid : z = ad.block
            · subst hid
              rw [TT.find_set 40 _ _ _ (find_lt hsmall)] at ho
              cases ho
            · rwa [TT.find_set_ne 40 _ _ _ _ (Ne.symm hid)] at ho
          obtain ⟨a1, es, a2⟩ := hM.its z o m hz hd
          have hma : ad.block ≠ m := fun hh => hnd z o hz (by rw [hh]; exact hd)
          exact ⟨a1, es, by rw [TT.find_set_ne 40 _ _ _ _ hma]; exact a2⟩
    -- a new row
    have fresh : ∀ (A' : Option Addr) (cap' : Nat), x' = .slice A' len cap' → cap' < len + n → ∃ ρ' v' w', (Builtin.append_ #[ts, u] ty #[x', y']).run P w = .ok v' w' ∧ VR ρ' env (.slice (some ⟨H.n, 0, none⟩) (len + n) (OPEN + (len + n))) v' ∧ Post T env ρ H w ρ' H2 w' := by
      rintro A' cap' rfl hlt
      obtain ⟨nc, hnc, hrun⟩ := append_new (ty := ty) hC hu hs hi hb1 hz huu hud hn' hrn2 hro2 hlt hmost
      let l : Loc := ⟨w.heap.size, 0, nc - (len + n)⟩
      refine ⟨bind ρ H.n l, _, _, hrun, ?_, hsub.trans ?_⟩
      · have := VR.slo (ρ := bind ρ H.n l) (env := env) (b := H.n) (o := 0) (n := len + n) (c := OPEN + (len + n)) (c' := len + n) (bind_self ρ H.n l) rfl
        have e1 : len + n + l.spare = nc := by simp only [l]; omega
        rw [e1] at this
        exact this
      · have := Post.new (w₁ := { w with drawn := w.drawn + 1, heap := w.heap.push (.cells ⟨old2 ++ new2 ++ repL (nc - (len + n)) z.cells.toList⟩ e) }) hsub.ok hn2 (by rw [hH1n]; exact hfr) rfl l (Nat.le_refl _) ?_ ?_
        · rw [hH1n] at this
          exact this
        · refine ⟨rfl, rfl, rfl, by simp, fun k hk _ => ?_⟩
          rw [Array.getElem?_push]
          simp [Nat.ne_of_lt hk]
        · refine ⟨[], old2 ++ new2, repL (nc - (len + n)) z.cells.toList, (0, 0), by simp [l], rfl, ?_, .inl rfl, fun _ => ⟨s, hs, by rw [repL_len, hzc]⟩⟩
          exact (hvo2.append hvn2).mono (bind_le _ (by rw [hH1n]; exact hfr))
    cases hx with
    | snil _ _ =>
      have hO : ¬ OPEN ≤ cap := by
        rcases growFrom_some hgr with ⟨_, h⟩ | ⟨_, _, h, _⟩
        · exact isOpen_false h
        · cases h
      have : capKnown cap = cap := by unfold capKnown; rw [cond_eq, if_neg (by rw [Nat.ble_eq]; exact hO)]
      exact fresh none cap rfl (by omega)
    | @sl b off lc _ _ e' hc =>
      have hk : capKnown cap = cap := by unfold capKnown; rw [cond_eq, if_neg (by rw [Nat.ble_eq]; omega)]
      exact fresh _ cap rfl (by omega)
    | @slo b off lc _ _ c' e' hc =>
      have hk : capKnown cap = c' := by unfold capKnown; rw [cond_eq, if_pos (by rw [Nat.ble_eq]; omega)]; omega
      by_cases hroom : len + n ≤ c' + lc.spare
      · -- in its place
        rcases growFrom_some hgr with ⟨_, h⟩ | ⟨ad, cs, had, _, hfind, hcl, hH1⟩
        · have := isOpen_false h
          omega
        obtain rfl := Option.some.inj had
        simp only at hfind hcl
        obtain ⟨lc', e'', hO⟩ := hM.obj b _ hfind
        rw [e'] at e''
        obtain rfl := Option.some.inj e''
        obtain ⟨pre, cs', sp, fz, hh, hbase, hcs, hfz, hsp⟩ := hO
        obtain ⟨s', hs', hspl⟩ := hsp rfl
        obtain rfl : s' = s := by rw [hs] at hs'; exact (Option.some.inj hs').symm
        have hcslen := hcs.length
        have hcap : cap - OPEN = c' := by omega
        rw [hcap] at hcl
        have hnl := hvn.length
        -- what was there
        have hold' : old = (cs.drop off).take (len * s') := by
          simp only [firstsV, cond_eq, Nat.beq_eq] at hold
          split at hold
          · rename_i h0; subst h0; simp at hold; simp [← hold]
          · unfold getC at hold
            rw [hfind] at hold
            simp only [dropN_eq] at hold
            exact (takeN_some hold).1
        have hmul : (len + n) * s' ≤ (c' + lc.spare) * s' := Nat.mul_le_mul_right _ hroom
        have e1 : (len + n) * s' = len * s' + n * s' := Nat.add_mul _ _ _
        have e2 : (c' + lc.spare) * s' = c' * s' + lc.spare * s' := Nat.add_mul _ _ _
        have hold_len : ((cs'.drop off).take (len * s')).length = len * s' := by
          have := congrArg List.length hold'
          rw [hlo] at this
          simp only [List.length_take, List.length_drop] at this ⊢
          omega
        have hlenle : len * s' ≤ cs'.length - off := by simp only [List.length_take, List.length_drop] at hold_len; omega
        let rest : List Value := cs'.drop (off + len * s') ++ sp
        have hrest : rest.length = (c' + lc.spare) * s' - len * s' := by simp only [rest, List.length_append, List.length_drop]; omega
        have hsplit : pre ++ cs' ++ sp = (pre ++ cs'.take off ++ (cs'.drop off).take (len * s')) ++ rest.take new'.length ++ rest.drop new'.length := split_row pre cs' sp off (len * s') new'.length
        have hpl : (pre ++ cs'.take off ++ (cs'.drop off).take (len * s')).length = lc.base + off + len * s' := by
          simp only [List.length_append, hold_len, List.length_take]; omega
        have hrun := run_stores (P := P) (b := lc.blk) (o := lc.base + off + len * s') (e := e) (fz := fz) new' (rest.take new'.length) (pre ++ cs'.take off ++ (cs'.drop off).take (len * s')) (rest.drop new'.length) 0 w
          (by rw [← hsplit]; exact hh) (by simp only [List.length_take]; omega) (by rw [hpl]; rfl)
          (hfz.imp (fun h => h) fun h => by rw [h, hpl]; simp only [List.length_take]; omega) (allOne_spec hC.one hone hvn)
        let l : Loc := ⟨lc.blk, lc.base + off, c' + lc.spare - (len + n)⟩
        have happ := append_in (P := P) (ty := ty) (A' := some ⟨lc.blk, lc.base + off, none⟩) hC hu hs huu hud hn' hrn hroom
          (w' := setBlk w lc.blk (.cells ⟨pre ++ cs'.take off ++ (cs'.drop off).take (len * s') ++ new' ++ rest.drop new'.length⟩ e fz))
          (fun ad h => by
            have h' := Option.some.inj h
            rw [← h', add_plain]
            exact hrun) (fun h => by cases h)
        refine ⟨bind ρ H.n l, _, _, happ, ?_, ?_⟩
        · have := VR.slo (ρ := bind ρ H.n l) (env := env) (b := H.n) (o := 0) (n := len + n) (c := OPEN + (len + n)) (c' := len + n) (bind_self ρ H.n l) rfl
          have e3 : len + n + l.spare = c' + lc.spare := by simp only [l]; omega
          rw [e3] at this
          exact this
        · rw [hH1] at hn2
          refine Post.renew hM hfind e' rfl (by simp) hn2 hfr rfl rfl (setBlk_upd w lc.blk _) ?_
          refine ⟨pre ++ cs'.take off, (cs'.drop off).take (len * s') ++ new', rest.drop new'.length, fz, ?_, ?_, ?_, ?_, fun _ => ⟨s', hs, ?_⟩⟩
          · rw [setBlk_self _ (lt_of_heap hh)]
            simp
          · simp only [List.length_append, List.length_take, l]; omega
          · rw [hold']
            exact (((hcs.drop off).take _).append hvn).mono (bind_le _ hfr)
          · refine hfz.imp (fun h => h) fun h => ?_
            rw [h]
            have : (pre ++ cs'.take off).length + ((cs'.drop off).take (len * s') ++ new').length + (rest.drop new'.length).length = pre.length + cs'.length + sp.length := by
              have := congrArg List.length hsplit
              simp only [List.length_append, List.length_take, List.length_drop] at this ⊢
              omega
            rw [this]
          · simp only [List.length_drop, l, Nat.sub_mul]
            omega
      · exact fresh _ _ rfl (by omega)
end
end Go.Proofs.Ytddknmgajacofaa.Ev

/-
  An evaluator of Go code on closed data: maps, as lists of entries.
-/
namespace Go.Proofs.Ytddknmgajacofaa.Ev
open Go

section
variable {P : Program} {T : TT TypeInfo} {env : Nat → Value} {ρ : Ren} {w : World}

/-! ### keys -/
theorem pair_lit {k l : IntKind} {a b : Int} {u : Value} (h : VR ρ env (.agg ⟨[.int k a, .int l b]⟩) u) : u = .agg ⟨[.int k a, .int l b]⟩ := by
  cases h with
  | agg h =>
    cases h with
    | cons h1 h =>
      cases h with
      | cons h2 h =>
        cases h
        rw [h1.int_inv, h2.int_inv]
theorem pair_self {k l : IntKind} {a b : Int} : VR ρ env (.agg ⟨[.int k a, .int l b]⟩) (.agg ⟨[.int k a, .int l b]⟩) := .agg (.cons (.int _ _) (.cons (.int _ _) .nil))
theorem sameKey_lit {k k' : Value} {b : Bool} (h : sameKey k k' = some b) : (∀ u, VR ρ env k u → u = k) ∧ (∀ u, VR ρ env k' u → u = k') ∧ VR ρ env k k ∧ VR ρ env k' k' := by
  unfold sameKey at h
  split at h
  · exact ⟨fun u hu => hu.int_inv, fun u hu => hu.int_inv, .int _ _, .int _ _⟩
  · exact ⟨fun u hu => hu.string_inv, fun u hu => hu.string_inv, .string _, .string _⟩
  · exact ⟨fun u hu => by cases hu; rfl, fun u hu => by cases hu; rfl, .bool _, .bool _⟩
  · exact ⟨fun u hu => pair_lit hu, fun u hu => pair_lit hu, pair_self, pair_self⟩
  · cases h
theorem bool_same (p q : Bool) : (match p, q with | true, true => true | false, false => true | _, _ => false) = (p == q) := by cases p <;> cases q <;> rfl
theorem sameKey_true {k k' : Value} (h : sameKey k k' = some true) : k = k' := by
  unfold sameKey at h
  split at h
  · simp only [cond_eq] at h
    split at h
    · rename_i hk
      rw [kEq_iff] at hk
      have h' := Option.some.inj h
      rw [ieq_iff] at h'
      rw [hk, h']
    · cases h
  · have h' := Option.some.inj h
    rw [beqL_eq, beq_iff_eq] at h'
    congr 1
    apply ByteArray.ext
    apply Array.ext'
    exact h'
  · rename_i p q; cases p <;> cases q <;> simp at h ⊢
  · simp only [cond_eq] at h
    split at h
    · rename_i hk
      rw [Bool.and_eq_true, kEq_iff, kEq_iff] at hk
      have h' := Option.some.inj h
      rw [Bool.and_eq_true, ieq_iff, ieq_iff] at h'
      rw [hk.1, hk.2, h'.1, h'.2]
    · cases h
  · cases h
theorem sameKey_self {k k' : Value} {b : Bool} (h : sameKey k k' = some b) : sameKey k k = some true ∧ sameKey k' k' = some true := by
  unfold sameKey at h
  split at h
  · simp [sameKey, (kEq_iff).2 rfl, (ieq_iff).2 rfl]
  · simp [sameKey, beqL_eq]
  · rename_i p q; cases p <;> cases q <;> simp [sameKey]
  · simp [sameKey, (kEq_iff).2 rfl, (ieq_iff).2 rfl]
  · cases h
theorem kEq_comm (a b : IntKind) : kEq a b = kEq b a := by
  rw [Bool.eq_iff_iff, kEq_iff, kEq_iff]
  exact eq_comm
theorem ieq_comm (a b : Int) : ieq a b = ieq b a := by
  rw [Bool.eq_iff_iff, ieq_iff, ieq_iff]
  exact eq_comm
theorem sameKey_symm {k k' : Value} {b : Bool} (h : sameKey k k' = some b) : sameKey k' k = some b := by
  unfold sameKey at h ⊢
  split at h
  · simp only [cond_eq] at h ⊢
    split at h
    · rename_i hk
      have hk' : kEq _ _ = true := kEq_iff.2 (kEq_iff.1 hk).symm
      rw [if_pos hk']
      have h' := Option.some.inj h
      rw [← h', ieq_eq, ieq_eq]
      congr 1
      rw [Bool.eq_iff_iff, beq_iff_eq, beq_iff_eq]
      exact eq_comm
    · cases h
  · have h' := Option.some.inj h
    rw [← h', beqL_eq, beqL_eq]
    congr 1
    rw [Bool.eq_iff_iff, beq_iff_eq, beq_iff_eq]
    exact eq_comm
  · rename_i p q; cases p <;> cases q <;> simpa using h
  · rename_i k a l b k' a' l' b'
    rw [kEq_comm k' k, kEq_comm l' l, ieq_comm a' a, ieq_comm b' b]
    exact h
  · cases h
theorem isKey_iff {k k' : Value} : isKey k k' = true ↔ sameKey k k' = some true := by
  unfold isKey
  cases h : sameKey k k' with
  | none => simp
  | some b => simp

/-- The model's own comparison of keys. -/
noncomputable def isArr : TypeDesc → Bool
  | .array _ _ => true
  | _ => false
theorem sameNow_ok {kd : TypeDesc} {k k' : Value} {b : Bool} (hk : keyKind T kd k = true) (ha : isArr kd = false) (h : sameKey k k' = some b) : Instr.sameNow kd k k' = some b := by
  match kd, k, hk, ha with
  | .int _, .int kk n, _, _ =>
    match k', h with
    | .int k2 m, h =>
      simp only [sameKey, cond_eq] at h
      split at h
      · rename_i hkk
        rw [kEq_iff] at hkk
        simp only [Instr.sameNow]
        rw [if_pos hkk, ← Option.some.inj h, ieq_eq]
      · cases h
  | .string, .string s, _, _ =>
    match k', h with
    | .string r, h =>
      simp only [sameKey] at h
      simp only [Instr.sameNow]
      rw [← Option.some.inj h, beqL_eq, beq_toListBytes, sL_eq, sL_eq]
  | .bool, .bool p, _, _ =>
    match k', h with
    | .bool q, h => cases p <;> cases q <;> simpa [sameKey, Instr.sameNow] using h

theorem lookE_some {k : Value} {es : List (Value × Value)} {r : Option Value} (h : lookE k es = some r) : (∀ p ∈ es, ∃ b, sameKey k p.1 = some b) ∧
    ((r = none ∧ ∀ p ∈ es, sameKey k p.1 = some false) ∨ ∃ v, r = some v ∧ ∃ p ∈ es, sameKey k p.1 = some true ∧ p.2 = v) := by
  induction es generalizing r with
  | nil => simp [lookE] at h; subst h; exact ⟨by simp, .inl ⟨rfl, by simp⟩⟩
  | cons p es ih =>
    obtain ⟨k', v⟩ := p
    simp only [lookE] at h
    cases hs : sameKey k k' with
    | none => rw [hs] at h; simp at h
    | some b =>
      rw [hs] at h
      simp only at h
      cases hl : lookE k es with
      | none => rw [hl] at h; simp at h
      | some r' =>
        rw [hl] at h
        obtain ⟨h1, h2⟩ := ih hl
        refine ⟨fun p hp => ?_, ?_⟩
        · rcases List.mem_cons.1 hp with rfl | hp
          · exact ⟨b, hs⟩
          · exact h1 p hp
        · cases b with
          | true =>
            simp at h
            subst h
            exact .inr ⟨v, rfl, (k', v), by simp, hs, rfl⟩
          | false =>
            simp at h
            subst h
            rcases h2 with ⟨rfl, h3⟩ | ⟨u, rfl, p, hp, h3⟩
            · refine .inl ⟨rfl, fun p hp => ?_⟩
              rcases List.mem_cons.1 hp with rfl | hp
              · exact hs
              · exact h3 p hp
            · exact .inr ⟨u, rfl, p, by simp [hp], h3⟩

theorem Distinct.once {es : List (Value × Value)} (hd : Distinct es) {k : Value} {p q : Value × Value} (hp : p ∈ es) (hq : q ∈ es) (h1 : sameKey k p.1 = some true) (h2 : sameKey k q.1 = some true) : p = q := by
  induction es with
  | nil => cases hp
  | cons x es ih =>
    obtain ⟨hx, hd⟩ := hd
    have e1 := sameKey_true h1
    have e2 := sameKey_true h2
    have hself := (sameKey_self h1).2
    rcases List.mem_cons.1 hp with hp | hp <;> rcases List.mem_cons.1 hq with hq | hq
    · rw [hp, hq]
    · have := hx q hq
      rw [← hp, ← e1, e2] at this
      rw [← e1, e2] at hself
      rw [hself] at this
      cases this
    · have := hx p hp
      rw [← hq, ← e2, e1] at this
      rw [hself] at this
      cases this
    · exact ih hd hp hq

/-! ### entries -/
theorem ERs.mem {es : List (Value × Value)} {L : List MapEntry} (h : ERs ρ env es L) : (∀ e ∈ L, ∃ p ∈ es, VR ρ env p.1 e.key ∧ VR ρ env p.2 e.val) ∧ ∀ p ∈ es, ∃ e ∈ L, VR ρ env p.1 e.key ∧ VR ρ env p.2 e.val := by
  induction h with
  | nil => exact ⟨by simp, by simp⟩
  | cons a b _ ih =>
    refine ⟨fun e he => ?_, fun p hp => ?_⟩
    · rcases List.mem_cons.1 he with rfl | he
      · exact ⟨(_, _), List.mem_cons_self, a, b⟩
      · obtain ⟨p, hp, r⟩ := ih.1 e he; exact ⟨p, by simp [hp], r⟩
    · rcases List.mem_cons.1 hp with rfl | hp
      · exact ⟨_, List.mem_cons_self, a, b⟩
      · obtain ⟨e, he, r⟩ := ih.2 p hp; exact ⟨e, by simp [he], r⟩
theorem ERs.length {es : List (Value × Value)} {L : List MapEntry} (h : ERs ρ env es L) : es.length = L.length := by
  induction h with
  | nil => rfl
  | cons _ _ _ ih => simp [ih]

/-- Is an entry a key's? -/
noncomputable def keyIs (k : Value) (e : MapEntry) : Bool := isKey k e.key

theorem findNow_ok {kd : TypeDesc} {k : Value} (hk : keyKind T kd k = true) (ha : isArr kd = false) : ∀ (L : List MapEntry) (i : Nat), (∀ e ∈ L, ∃ b, sameKey k e.key = some b) →
    (Instr.findNow kd k L i = some none ∧ ∀ e ∈ L, sameKey k e.key = some false) ∨ ∃ j e, L[j]? = some e ∧ sameKey k e.key = some true ∧ Instr.findNow kd k L i = some (some (i + j, e.val)) := by
  intro L
  induction L with
  | nil => intro i _; exact .inl ⟨rfl, by simp⟩
  | cons x L ih =>
    intro i h
    obtain ⟨b, hb⟩ := h x (by simp)
    have hn := sameNow_ok hk ha hb
    simp only [Instr.findNow, hn]
    cases b with
    | true => exact .inr ⟨0, x, rfl, hb, rfl⟩
    | false =>
      simp only
      rcases ih (i + 1) (fun e he => h e (by simp [he])) with ⟨h1, h2⟩ | ⟨j, e, h1, h2, h3⟩
      · refine .inl ⟨h1, fun e he => ?_⟩
        rcases List.mem_cons.1 he with rfl | he
        · exact hb
        · exact h2 e he
      · exact .inr ⟨j + 1, e, by simpa using h1, h2, by rw [h3]; congr 3; omega⟩

theorem eq_key (hT : Tabs P T) {kt : TypeId} {kd : TypeDesc} {k k' : Value} {b : Bool} (hu : under T kt = some kd) (hk : keyKind T kd k = true) (ha : isArr kd = true) (h : sameKey k k' = some b) : (Op.equal kt k k').run P w = .ok b w := by
  have hl := sameKey_lit (ρ := fun _ => none) (env := fun _ => .nilFunc) h
  match kd, k, hk, ha, hu with
  | .array n e, .agg ⟨[.int k1 a, .int k2 c]⟩, hk, _, hu =>
    match k', h, hl with
    | .agg ⟨[.int k1' a', .int k2' c']⟩, h, hl =>
      simp only [keyKind, Bool.and_eq_true] at hk
      obtain ⟨hn, hk⟩ := hk
      obtain rfl := Nat.eq_of_beq_eq_true hn
      split at hk
      · rename_i _ _ _ kk he hag hs
        obtain rfl := Nat.eq_of_beq_eq_true hk
        simp only [sameKey, cond_eq] at h
        split at h
        · rename_i hkk
          rw [Bool.and_eq_true] at hkk
          have hb := Option.some.inj h
          have he2 : eqT T 2 kt (.agg ⟨[.int k1 a, .int k2 c]⟩) (.agg ⟨[.int k1' a', .int k2' c']⟩) = some b := by
            rw [← hb]
            cases h1 : ieq a a' <;> cases h2 : ieq c c' <;> simp [eqT, hu, hs, eqElemsH, partV, hag, nth, he, hkk.1, hkk.2, h1, h2]
          exact eq_run hT 2 kt _ _ _ _ b he2 hl.2.2.1 hl.2.2.2 9998 w
        · cases h
      · cases hk
theorem findAsk_ok (hT : Tabs P T) {kt : TypeId} {kd : TypeDesc} {k : Value} (hu : under T kt = some kd) (hk : keyKind T kd k = true) (ha : isArr kd = true) : ∀ (L : List MapEntry) (i : Nat), (∀ e ∈ L, ∃ b, sameKey k e.key = some b) →
    ((Instr.findAsking kt k L i).run P w = .ok none w ∧ ∀ e ∈ L, sameKey k e.key = some false) ∨ ∃ j e, L[j]? = some e ∧ sameKey k e.key = some true ∧ (Instr.findAsking kt k L i).run P w = .ok (some (i + j, e.val)) w := by
  intro L
  induction L with
  | nil => intro i _; exact .inl ⟨rfl, by simp⟩
  | cons x L ih =>
    intro i h
    obtain ⟨b, hb⟩ := h x (by simp)
    have hn := eq_key (w := w) hT hu hk ha hb
    simp only [Instr.findAsking, Sem.run_bind, hn, Result.andThen_ok]
    cases b with
    | true => exact .inr ⟨0, x, rfl, hb, rfl⟩
    | false =>
      simp only [Bool.false_eq_true, if_false]
      rcases ih (i + 1) (fun e he => h e (by simp [he])) with ⟨h1, h2⟩ | ⟨j, e, h1, h2, h3⟩
      · refine .inl ⟨h1, fun e he => ?_⟩
        rcases List.mem_cons.1 he with rfl | he
        · exact hb
        · exact h2 e he
      · exact .inr ⟨j + 1, e, by simpa using h1, h2, by rw [h3, show i + 1 + j = i + (j + 1) by omega]⟩
theorem findRun (hT : Tabs P T) {kt : TypeId} {kd : TypeDesc} {k : Value} (hu : under T kt = some kd) (hk : keyKind T kd k = true) (L : List MapEntry) (hall : ∀ e ∈ L, ∃ b, sameKey k e.key = some b) :
    ((Instr.findKey kt k L).run P w = .ok none w ∧ ∀ e ∈ L, sameKey k e.key = some false) ∨ ∃ j e, L[j]? = some e ∧ sameKey k e.key = some true ∧ (Instr.findKey kt k L).run P w = .ok (some (j, e.val)) w := by
  cases ha : isArr kd with
  | false =>
    rcases findNow_ok hk ha L 0 hall with ⟨a1, a2⟩ | ⟨j, e, a1, a2, a3⟩
    · exact .inl ⟨by simp [Instr.findKey, run_under hT hu, a1], a2⟩
    · rw [Nat.zero_add] at a3
      exact .inr ⟨j, e, a1, a2, by simp [Instr.findKey, run_under hT hu, a3]⟩
  | true =>
    have hnow : Instr.findNow kd k L 0 = none ∨ L = [] := by
      cases L with
      | nil => exact .inr rfl
      | cons x L =>
        refine .inl ?_
        have : Instr.sameNow kd k x.key = none := by
          match kd, k, hk, ha with
          | .array n e, .agg ⟨[.int k1 a, .int k2 c]⟩, _, _ => rfl
        simp only [Instr.findNow, this]
    rcases hnow with hnow | rfl
    · rcases findAsk_ok (w := w) hT hu hk ha L 0 hall with ⟨a1, a2⟩ | ⟨j, e, a1, a2, a3⟩
      · exact .inl ⟨by simp [Instr.findKey, run_under hT hu, hnow, a1], a2⟩
      · rw [Nat.zero_add] at a3
        exact .inr ⟨j, e, a1, a2, by simp [Instr.findKey, run_under hT hu, hnow, a3]⟩
    · exact .inl ⟨by simp [Instr.findKey, run_under hT hu, Instr.findNow], by simp⟩
/-- A key is looked for in a map. -/
theorem findKey_ok {kt : TypeId} {kd : TypeDesc} {k : Value} {es : List (Value × Value)} {es' : Array MapEntry} {c : Nat} {r : Option Value} (hT : Tabs P T) (hu : under T kt = some kd) (hk : keyKind T kd k = true) (hM : MapOK ρ env es es' c) (hl : lookE k es = some r) :
    (∀ e ∈ es'.toList, ∃ b, sameKey k e.key = some b) ∧
    ((r = none ∧ (Instr.findKey kt k es'.toList).run P w = .ok none w ∧ ∀ e ∈ es'.toList, sameKey k e.key = some false) ∨
     ∃ v j e, r = some v ∧ es'.toList[j]? = some e ∧ sameKey k e.key = some true ∧ VR ρ env v e.val ∧ (Instr.findKey kt k es'.toList).run P w = .ok (some (j, e.val)) w) := by
  obtain ⟨⟨L, hE, hperm⟩, hd, _, _⟩ := hM
  obtain ⟨h1, h2⟩ := lookE_some hl
  have hall : ∀ e ∈ es'.toList, ∃ b, sameKey k e.key = some b := by
    intro e he
    obtain ⟨p, hp, hv, _⟩ := hE.mem.1 e (hperm.mem_iff.2 he)
    obtain ⟨b, hb⟩ := h1 p hp
    have := (sameKey_lit (ρ := ρ) (env := env) hb).2.1 _ hv
    exact ⟨b, by rw [this]; exact hb⟩
  refine ⟨hall, ?_⟩
  rcases findRun (w := w) hT hu hk es'.toList hall with ⟨a1, a2⟩ | ⟨j, e, a1, a2, a3⟩
  · refine .inl ⟨?_, a1, a2⟩
    rcases h2 with ⟨rfl, _⟩ | ⟨v, rfl, p, hp, hs, _⟩
    · rfl
    · exfalso
      obtain ⟨e, he, hv, _⟩ := hE.mem.2 p hp
      have := (sameKey_lit (ρ := ρ) (env := env) hs).2.1 _ hv
      have hf := a2 e (hperm.mem_iff.1 he)
      rw [this, hs] at hf
      cases hf
  · have he : e ∈ es'.toList := List.mem_of_getElem? a1
    obtain ⟨p, hp, hv1, hv2⟩ := hE.mem.1 e (hperm.mem_iff.2 he)
    obtain ⟨b, hb⟩ := h1 p hp
    have hek := (sameKey_lit (ρ := ρ) (env := env) hb).2.1 _ hv1
    rw [hek] at a2
    rcases h2 with ⟨_, h3⟩ | ⟨v, rfl, q, hq, hs, rfl⟩
    · have := h3 p hp
      rw [a2] at this
      cases this
    · have := hd.once hp hq a2 hs
      subst this
      exact .inr ⟨_, j, e, rfl, a1, by rw [hek]; exact a2, hv2, a3⟩

/-! ### entries that are put and taken -/
theorem Distinct.rep {es : List (Value × Value)} (hd : Distinct es) {k v : Value} : Distinct (repE k v es) := by
  induction es with
  | nil => trivial
  | cons p es ih =>
    obtain ⟨k', v'⟩ := p
    obtain ⟨h1, h2⟩ := hd
    have hmem : ∀ q ∈ repE k v es, ∃ q' ∈ es, q.1 = q'.1 := by
      clear ih h1 h2
      induction es with
      | nil => simp [repE]
      | cons x es ih =>
        intro q hq
        simp only [repE, List.mem_cons] at hq
        rcases hq with rfl | hq
        · refine ⟨x, by simp, ?_⟩
          rw [cond_eq]
          split
          · rename_i hi; exact sameKey_true (isKey_iff.1 hi)
          · rfl
        · obtain ⟨q', h, e⟩ := ih q hq; exact ⟨q', by simp [h], e⟩
    have hhead : ((bif isKey k k' then (k, v) else (k', v')) : Value × Value).1 = k' := by
      rw [cond_eq]
      split
      · rename_i hi; exact sameKey_true (isKey_iff.1 hi)
      · rfl
    simp only [repE]
    generalize (bif isKey k k' then (k, v) else (k', v')) = hd at hhead
    obtain ⟨a, b⟩ := hd
    simp only at hhead
    subst hhead
    exact ⟨fun q hq => by obtain ⟨q', h, e⟩ := hmem q hq; rw [e]; exact h1 q' h, ih h2⟩
theorem insE_perm (k v : Value) (es : List (Value × Value)) : (insE k v es).Perm ((k, v) :: es) := by
  induction es with
  | nil => exact .refl _
  | cons p es ih =>
    obtain ⟨k', v'⟩ := p
    simp only [insE, cond_eq]
    split
    · exact .refl _
    · exact (ih.cons _).trans (.swap _ _ _)
theorem Distinct.ins {es : List (Value × Value)} (hd : Distinct es) {k v : Value} (h : ∀ p ∈ es, sameKey k p.1 = some false) : Distinct (insE k v es) := by
  induction es with
  | nil => exact ⟨by simp, trivial⟩
  | cons p es ih =>
    obtain ⟨k', v'⟩ := p
    simp only [insE, cond_eq]
    split
    · exact ⟨h, hd⟩
    · refine ⟨fun q hq => ?_, ih hd.2 fun p hp => h p (by simp [hp])⟩
      rcases List.mem_cons.1 ((insE_perm k v es).mem_iff.1 hq) with rfl | hq
      · exact sameKey_symm (h (k', v') (by simp))
      · exact hd.1 q hq
theorem delE_mem {k : Value} {es : List (Value × Value)} {q : Value × Value} (h : q ∈ delE k es) : q ∈ es := by
  induction es with
  | nil => exact h
  | cons p es ih =>
    obtain ⟨k', v'⟩ := p
    simp only [delE, cond_eq] at h
    split at h
    · exact List.mem_cons_of_mem _ (ih h)
    · rcases List.mem_cons.1 h with rfl | h
      · simp
      · exact List.mem_cons_of_mem _ (ih h)
theorem Distinct.del {es : List (Value × Value)} (hd : Distinct es) {k : Value} : Distinct (delE k es) := by
  induction es with
  | nil => trivial
  | cons p es ih =>
    obtain ⟨k', v'⟩ := p
    simp only [delE, cond_eq]
    split
    · exact ih hd.2
    · exact ⟨fun q hq => hd.1 q (delE_mem hq), ih hd.2⟩
end
end Go.Proofs.Ytddknmgajacofaa.Ev

/-
  An evaluator of Go code on closed data: maps that change.
-/
namespace Go.Proofs.Ytddknmgajacofaa.Ev
open Go

section
variable {env : Nat → Value} {ρ : Ren}

theorem ERs.apart {es : List (Value × Value)} {L : List MapEntry} (h : ERs ρ env es L) (hd : Distinct es) : L.Pairwise fun a b => sameKey a.key b.key = some false := by
  induction h with
  | nil => exact .nil
  | cons a b hh ih =>
    obtain ⟨h1, h2⟩ := hd
    refine .cons (fun e he => ?_) (ih h2)
    obtain ⟨p, hp, hk, _⟩ := hh.mem.1 e he
    have hs := h1 p hp
    have l1 := (sameKey_lit (ρ := ρ) (env := env) hs).1 _ a
    have l2 := (sameKey_lit (ρ := ρ) (env := env) hs).2.1 _ hk
    rw [l1, l2]
    exact hs
theorem perm_apart {L L' : List MapEntry} (h : L.Pairwise fun a b => sameKey a.key b.key = some false) (hp : L.Perm L') : L'.Pairwise fun a b => sameKey a.key b.key = some false :=
  (hp.pairwise_iff fun hab => sameKey_symm hab).1 h
theorem MapOK.apart' {es : List (Value × Value)} {es' : Array MapEntry} {c : Nat} (h : MapOK ρ env es es' c) : es'.toList.Pairwise fun a b => sameKey a.key b.key = some false := by
  obtain ⟨⟨L, hE, hp⟩, hd, _, _⟩ := h
  exact perm_apart (hE.apart hd) hp
/-- Only one entry is a key's. -/
theorem only_one {L : List MapEntry} (h : L.Pairwise fun a b => sameKey a.key b.key = some false) {k : Value} {i j : Nat} {a b : MapEntry} (ha : L[i]? = some a) (hb : L[j]? = some b) (h1 : sameKey k a.key = some true) (h2 : sameKey k b.key = some true) : i = j := by
  have e1 := sameKey_true h1
  have e2 := sameKey_true h2
  have hself := (sameKey_self h1).1
  rw [List.pairwise_iff_getElem] at h
  obtain ⟨hi, ha'⟩ := List.getElem?_eq_some_iff.1 ha
  obtain ⟨hj, hb'⟩ := List.getElem?_eq_some_iff.1 hb
  rcases Nat.lt_trichotomy i j with hlt | heq | hlt
  · have := h i j hi hj hlt
    rw [ha', hb', ← e1, ← e2, hself] at this
    cases this
  · exact heq
  · have := h j i hj hi hlt
    rw [ha', hb', ← e1, ← e2, hself] at this
    cases this

noncomputable def putG (k v' : Value) (e : MapEntry) : MapEntry := if keyIs k e then { e with key := k, val := v' } else e
theorem putG_born (k v' : Value) (e : MapEntry) : (putG k v' e).born = e.born := by unfold putG; split <;> rfl

theorem ERs.rep {k v v' : Value} (hk : VR ρ env k k) (hv : VR ρ env v v') {es : List (Value × Value)} {L : List MapEntry} (h : ERs ρ env es L) (hall : ∀ p ∈ es, ∃ b, sameKey k p.1 = some b) : ERs ρ env (repE k v es) (L.map (putG k v')) := by
  induction h with
  | nil => exact .nil
  | @cons k0 v0 e l l' a b hh ih =>
    obtain ⟨c, hc⟩ := hall (k0, v0) (by simp)
    have hek : e.key = k0 := (sameKey_lit (ρ := ρ) (env := env) hc).2.1 _ a
    have ih' := ih fun p hp => hall p (by simp [hp])
    simp only [repE, List.map_cons, cond_eq]
    by_cases hi : isKey k k0 = true
    · rw [if_pos hi]
      have : putG k v' e = { e with key := k, val := v' } := by unfold putG keyIs; rw [hek, if_pos hi]
      rw [this]
      exact .cons hk hv ih'
    · rw [if_neg hi]
      have : putG k v' e = e := by unfold putG keyIs; rw [hek, if_neg hi]
      rw [this]
      exact .cons a b ih'
theorem MapOK.rep {k v v' : Value} {es : List (Value × Value)} {es' : Array MapEntry} {c : Nat} (h : MapOK ρ env es es' c) (hk : VR ρ env k k) (hv : VR ρ env v v') (hall : ∀ p ∈ es, ∃ b, sameKey k p.1 = some b) {j : Nat} {e : MapEntry} (hj : es'.toList[j]? = some e) (hs : sameKey k e.key = some true) :
    MapOK ρ env (repE k v es) (es'.modify j fun e => { e with key := k, val := v' }) c := by
  have hone := h.apart'
  obtain ⟨⟨L, hE, hp⟩, hd, hb, ho⟩ := h
  have hmod : (es'.modify j fun e => { e with key := k, val := v' }).toList = es'.toList.map (putG k v') := by
    apply List.ext_getElem?
    intro i
    rw [Array.getElem?_toList, Array.getElem?_modify, List.getElem?_map, Array.getElem?_toList]
    by_cases hij : j = i
    · subst hij
      rw [if_pos rfl]
      rw [Array.getElem?_toList] at hj
      rw [hj]
      simp only [Option.map_some]
      congr 1
      unfold putG keyIs
      rw [if_pos (isKey_iff.2 hs)]
    · rw [if_neg hij]
      cases hi : es'[i]? with
      | none => rfl
      | some x =>
        simp only [Option.map_some]
        congr 1
        unfold putG keyIs
        rw [if_neg]
        intro hx
        exact hij (only_one hone hj (by rw [Array.getElem?_toList]; exact hi) hs (isKey_iff.1 hx))
  refine ⟨⟨L.map (putG k v'), hE.rep hk hv hall, by rw [hmod]; exact hp.map _⟩, hd.rep, ?_, ?_⟩
  · intro x hx
    rw [hmod] at hx
    obtain ⟨y, hy, rfl⟩ := List.mem_map.1 hx
    rw [putG_born]
    exact hb y hy
  · rw [hmod, List.pairwise_map]
    exact ho.imp fun hne => by rw [putG_born, putG_born]; exact hne

theorem ERs.ins {k v : Value} {x : MapEntry} (hk : VR ρ env k x.key) (hv : VR ρ env v x.val) {es : List (Value × Value)} {L : List MapEntry} (h : ERs ρ env es L) : ∃ L', ERs ρ env (insE k v es) L' ∧ L'.Perm (x :: L) := by
  induction h with
  | nil => exact ⟨[x], .cons hk hv .nil, .refl _⟩
  | @cons k0 v0 e l l' a b hh ih =>
    simp only [insE, cond_eq]
    split
    · exact ⟨x :: e :: l', .cons hk hv (.cons a b hh), .refl _⟩
    · obtain ⟨L', h1, h2⟩ := ih
      exact ⟨e :: L', .cons a b h1, (h2.cons _).trans (.swap _ _ _)⟩
theorem MapOK.ins {k v k' v' : Value} {es : List (Value × Value)} {es' : Array MapEntry} {c : Nat} (h : MapOK ρ env es es' c) (hk : VR ρ env k k') (hv : VR ρ env v v') (hno : ∀ p ∈ es, sameKey k p.1 = some false) :
    MapOK ρ env (insE k v es) (es'.push { key := k', val := v', born := c }) (c + 1) := by
  obtain ⟨⟨L, hE, hp⟩, hd, hb, ho⟩ := h
  obtain ⟨L', h1, h2⟩ := ERs.ins (x := { key := k', val := v', born := c }) hk hv hE
  refine ⟨⟨L', h1, ?_⟩, hd.ins hno, ?_, ?_⟩
  · rw [Array.toList_push]
    exact h2.trans ((hp.cons _).trans (List.perm_append_singleton _ _).symm)
  · intro x hx
    rw [Array.toList_push, List.mem_append] at hx
    rcases hx with hx | hx
    · have := hb x hx; omega
    · obtain rfl : x = _ := by simpa using hx
      simp
  · rw [Array.toList_push, List.pairwise_append]
    refine ⟨ho, by simp, fun x hx y hy => ?_⟩
    obtain rfl : y = _ := by simpa using hy
    have := hb x hx
    simp only
    omega

theorem ERs.del {k : Value} {es : List (Value × Value)} {L : List MapEntry} (h : ERs ρ env es L) (hall : ∀ p ∈ es, ∃ b, sameKey k p.1 = some b) : ERs ρ env (delE k es) (L.filter fun e => !keyIs k e) := by
  induction h with
  | nil => exact .nil
  | @cons k0 v0 e l l' a b hh ih =>
    obtain ⟨c, hc⟩ := hall (k0, v0) (by simp)
    have hek : e.key = k0 := (sameKey_lit (ρ := ρ) (env := env) hc).2.1 _ a
    have ih' := ih fun p hp => hall p (by simp [hp])
    simp only [delE, cond_eq, List.filter_cons, keyIs, hek]
    by_cases hi : isKey k k0 = true
    · rw [if_pos hi, hi]
      exact ih'
    · rw [if_neg hi]
      have : isKey k k0 = false := by simpa using hi
      rw [this]
      exact .cons a b ih'
theorem MapOK.del {k : Value} {es : List (Value × Value)} {es' : Array MapEntry} {c : Nat} (h : MapOK ρ env es es' c) (hall : ∀ p ∈ es, ∃ b, sameKey k p.1 = some b) {es2 : Array MapEntry} (h2 : es2.toList = es'.toList.filter fun e => !keyIs k e) :
    MapOK ρ env (delE k es) es2 c := by
  obtain ⟨⟨L, hE, hp⟩, hd, hb, ho⟩ := h
  refine ⟨⟨_, hE.del hall, by rw [h2]; exact hp.filter _⟩, hd.del, ?_, ?_⟩
  · intro x hx
    rw [h2] at hx
    exact hb x (List.mem_filter.1 hx).1
  · rw [h2]
    exact ho.filter _
/-- An entry is taken out by its place. -/
theorem erase_filter {k : Value} {L : List MapEntry} (h : L.Pairwise fun a b => sameKey a.key b.key = some false) {j : Nat} {e : MapEntry} (hj : L[j]? = some e) (hs : sameKey k e.key = some true) : L.eraseIdx j = L.filter fun e => !keyIs k e := by
  induction L generalizing j with
  | nil => simp at hj
  | cons x L ih =>
    cases h with
    | cons h1 h2 =>
      have hek := sameKey_true hs
      cases j with
      | zero =>
        simp at hj
        subst hj
        simp only [List.eraseIdx_zero, List.tail_cons]
        rw [List.filter_cons]
        have : keyIs k x = true := isKey_iff.2 hs
        simp only [this, Bool.not_true, Bool.false_eq_true, if_false]
        symm
        rw [List.filter_eq_self]
        intro y hy
        have := h1 y hy
        rw [← hek] at this
        simp [keyIs, isKey, this]
      | succ j =>
        simp at hj
        rw [List.eraseIdx_cons_succ, List.filter_cons, ih h2 hj]
        have hxe := h1 e (List.mem_of_getElem? hj)
        rw [← hek] at hxe
        have : keyIs k x = false := by simp [keyIs, isKey, sameKey_symm hxe]
        simp [this]
end
end Go.Proofs.Ytddknmgajacofaa.Ev

/-
  An evaluator of Go code on closed data: operations on maps.
-/
namespace Go.Proofs.Ytddknmgajacofaa.Ev
open Go

section
variable {P : Program} {T : TT TypeInfo} {env : Nat → Value} {G : Nat} {ρ : Ren} {F : Fr} {H H' : HS} {a : Act} {w : World} {v : Value} {o : Oper}

theorem depIs_iff {m : Nat} {x : Option AObj} : depIs m x = true ↔ ∃ o, x = some o ∧ o.dep = some m := by
  unfold depIs
  split
  · rename_i m' _ _; rw [Nat.beq_eq]; constructor
    · rintro rfl; exact ⟨_, rfl, rfl⟩
    · rintro ⟨o, h, hd⟩; cases h; exact Option.some.inj hd
  · rename_i m' _; rw [Nat.beq_eq]; constructor
    · rintro rfl; exact ⟨_, rfl, rfl⟩
    · rintro ⟨o, h, hd⟩; cases h; exact Option.some.inj hd
  · rename_i h1 h2
    constructor
    · intro h; cases h
    · rintro ⟨o, rfl, hd⟩
      cases o with
      | iter m' l c => cases m' with
        | none => cases hd
        | some m' => exact absurd rfl (h1 m' l c)
      | stamp m' k => exact absurd rfl (h2 m' k)
      | _ => cases hd

theorem killL_ok (m : Nat) : ∀ (l : List (Nat × Nat)) (h : TT AObj), (∀ id o, h.find id = some o → id < idMost) →
    (∀ id o, (killL m l h).1.find id = some o → h.find id = some o) ∧ (∀ id o, h.find id = some o → o.dep ≠ some m → (killL m l h).1.find id = some o) ∧
    (∀ z o, (killL m l h).1.find z = some o → o.dep = some m → (z, m) ∉ l) ∧ (∀ z m2, (z, m2) ∈ l → m2 ≠ m → (z, m2) ∈ (killL m l h).2) := by
  intro l
  induction l with
  | nil => intro h _; exact ⟨fun _ _ h => h, fun _ _ h _ => h, fun _ _ _ _ => by simp, by simp⟩
  | cons p l ih =>
    intro h hs
    obtain ⟨z, m'⟩ := p
    by_cases hm : m' = m
    · subst hm
      have hb : Nat.beq m' m' = true := by rw [Nat.beq_eq]
      have e : killL m' ((z, m') :: l) h = killL m' l (if depIs m' (h.find z) = true then TT.set 40 h z none else h) := by simp only [killL, cond_eq, hb, if_true]
      rw [e]
      let h1 := (if depIs m' (h.find z) = true then TT.set 40 h z none else h)
      have sub : ∀ id o, h1.find id = some o → h.find id = some o := by
        intro id o hf
        simp only [h1] at hf
        split at hf
        · rename_i hd
          obtain ⟨oz, hz, _⟩ := depIs_iff.1 hd
          by_cases hid : z = id
          · subst hid; rw [TT.find_set 40 _ _ _ (find_lt (hs _ _ hz))] at hf; cases hf
          · rwa [TT.find_set_ne 40 _ _ _ _ hid] at hf
        · exact hf
      have keep : ∀ id o, h.find id = some o → o.dep ≠ some m' → h1.find id = some o := by
        intro id o hf hd
        simp only [h1]
        split
        · rename_i hd'
          obtain ⟨oz, hz, hdz⟩ := depIs_iff.1 hd'
          have hid : z ≠ id := fun hh => by subst hh; rw [hf] at hz; cases hz; exact hd hdz
          rw [TT.find_set_ne 40 _ _ _ _ hid]
          exact hf
        · exact hf
      have gone : ∀ o, h1.find z = some o → o.dep ≠ some m' := by
        intro o hf hd
        simp only [h1] at hf
        split at hf
        · rename_i hd'
          obtain ⟨oz, hz, _⟩ := depIs_iff.1 hd'
          rw [TT.find_set 40 _ _ _ (find_lt (hs _ _ hz))] at hf
          cases hf
        · rename_i hd'
          exact hd' (depIs_iff.2 ⟨o, hf, hd⟩)
      obtain ⟨i1, i2, i3, i4⟩ := ih h1 (fun id o hf => hs id o (sub id o hf))
      refine ⟨fun id o hf => sub id o (i1 id o hf), fun id o hf hd => i2 id o (keep id o hf hd) hd, fun z' o hf hd hmem => ?_, fun z' m2 hmem hne => ?_⟩
      · rcases List.mem_cons.1 hmem with hmem | hmem
        · have hz : z' = z := by injection hmem
          subst hz
          exact gone o (i1 _ _ hf) hd
        · exact i3 z' o hf hd hmem
      · rcases List.mem_cons.1 hmem with hmem | hmem
        · exact absurd (by injection hmem) hne
        · exact i4 z' m2 hmem hne
    · have hb : ¬ Nat.beq m' m = true := by rw [Nat.beq_eq]; exact hm
      have e : killL m ((z, m') :: l) h = ((killL m l h).1, (z, m') :: (killL m l h).2) := by simp only [killL, cond_eq, if_neg hb]
      rw [e]
      obtain ⟨i1, i2, i3, i4⟩ := ih h hs
      refine ⟨i1, i2, fun z' o hf hd hmem => ?_, fun z' m2 hmem hne => ?_⟩
      · rcases List.mem_cons.1 hmem with hmem | hmem
        · exact hm (by injection hmem with _ h; exact h.symm)
        · exact i3 z' o hf hd hmem
      · rcases List.mem_cons.1 hmem with hmem | hmem
        · exact List.mem_cons.2 (.inl hmem)
        · exact List.mem_cons.2 (.inr (i4 z' m2 hmem hne))

theorem killM_ok (hM : Match T env ρ H w) (m : Nat) : Post T env ρ H w ρ (killM m H) w ∧ (killM m H).n = H.n ∧ (∀ id o, H.h.find id = some o → o.dep ≠ some m → (killM m H).h.find id = some o) ∧ ∀ z o, (killM m H).h.find z = some o → o.dep ≠ some m := by
  obtain ⟨i1, i2, i3, i4⟩ := killL_ok m H.its H.h hM.small
  have hform : killM m H = ⟨(killL m H.its H.h).1, H.n, (killL m H.its H.h).2⟩ := by
    unfold killM
    split
    · rename_i hn
      rw [hn]
      simp [killL, ← hn]
    · rfl
  rw [hform]
  have nodep : ∀ z o, (killL m H.its H.h).1.find z = some o → o.dep ≠ some m := fun z o hf hd => i3 z o hf hd (hM.its z o m (i1 z o hf) hd).1
  refine ⟨Post.sub hM i1 fun z o m2 hf hd => ?_, rfl, i2, nodep⟩
  obtain ⟨a1, es, a2⟩ := hM.its z o m2 (i1 z o hf) hd
  have hne : m2 ≠ m := fun hh => nodep z o hf (hh ▸ hd)
  exact ⟨i4 z m2 a1 hne, es, i2 m2 _ a2 (by simp [AObj.dep])⟩

/-- A map's contents change. -/
theorem set_map (hM : Match T env ρ H w) {r : Nat} {es es2 : List (Value × Value)} {l : Loc} (hf : H.h.find r = some (.map es)) (e : ρ r = some l) {o' : Obj} (hob : ∀ w1 : World, w1.heap[l.blk]? = some o' → ObjOK T ρ env w1 (.map es2) l) :
    Post T env ρ H w ρ (putO (killM r H) r (some (.map es2))) (setBlk w l.blk o') := by
  obtain ⟨k1, k2, k3, k4⟩ := killM_ok hM r
  have hf' := k3 r _ hf (by simp [AObj.dep])
  obtain ⟨l', e', hO⟩ := hM.obj r _ hf
  rw [e] at e'
  obtain rfl := Option.some.inj e'
  have hlt := hO.lt rfl
  exact k1.trans (Post.set k1.ok hf' e rfl (setBlk_upd w l.blk _) (hob _ (setBlk_self _ hlt)) (by simp [AObj.dep]) fun _ => k4)

theorem run_setMap {r : Nat} {es' : Array MapEntry} {c : Nat} (o' : Obj) (h : w.heap[r]? = some (.map es' c)) : (setObj r o').run P w = .ok () (setBlk w r o') := by
  simp [setObj, Sem.run, h, setBlk]
theorem run_getMap {r : Nat} {es' : Array MapEntry} {c : Nat} (h : w.heap[r]? = some (.map es' c)) : (getObj r).run P w = .ok (.map es' c) w := by
  simp [getObj, Sem.run, h]
theorem checkKey_any (hC : Cx P T env G) {kt : TypeId} {kd : TypeDesc} {k : Value} (hu : under T kt = some kd) (hk : keyKind T kd k = true) (b : Bool) (n : Nat) : (Instr.checkKey b (n + 2) kt k).run P w = .ok () w := by
  match kd, k, hk, hu with
  | .int _, .int kk m, _, hu => simp [Instr.checkKey, run_under hC.tabs hu]
  | .string, .string s, _, hu => simp [Instr.checkKey, run_under hC.tabs hu]
  | .bool, .bool p, _, hu => simp [Instr.checkKey, run_under hC.tabs hu]
  | .array m e, .agg ⟨[.int k1 a, .int k2 c]⟩, hk, hu =>
    simp only [keyKind, Bool.and_eq_true] at hk
    obtain ⟨hn, hk⟩ := hk
    obtain rfl := Nat.eq_of_beq_eq_true hn
    split at hk
    · rename_i _ _ _ kk he hag hs
      obtain rfl := Nat.eq_of_beq_eq_true hk
      have hp1 := partV_run (ρ := fun _ => none) (env := fun _ => .nilFunc) hC.tabs (t := e) (cs := [.int k1 a, .int k2 c]) (off := 0) (u := .int k1 a) (by simp [partV, hag, nth]) (.cons (.int _ _) (.cons (.int _ _) .nil)) w
      have hp2 := partV_run (ρ := fun _ => none) (env := fun _ => .nilFunc) hC.tabs (t := e) (cs := [.int k1 a, .int k2 c]) (off := 1) (u := .int k2 c) (by simp [partV, hag, nth]) (.cons (.int _ _) (.cons (.int _ _) .nil)) w
      obtain ⟨u1, e1, r1⟩ := hp1
      obtain ⟨u2, e2, r2⟩ := hp2
      rw [r1.int_inv] at e1
      rw [r2.int_inv] at e2
      have hsz := run_size hC.tabs hs w
      simp [Instr.checkKey, run_under hC.tabs hu, run_under hC.tabs he, hsz, e1, e2, List.range'_succ]
    · cases hk
theorem checkKey_ok (hC : Cx P T env G) {kt : TypeId} {kd : TypeDesc} {k : Value} (hu : under T kt = some kd) (hk : keyKind T kd k = true) (b : Bool) : (Instr.checkKey b 10000 kt k).run P w = .ok () w := checkKey_any hC hu hk b 9998
theorem keyKind_lit {kd : TypeDesc} {k : Value} (hk : keyKind T kd k = true) : (∀ u, VR ρ env k u → u = k) ∧ VR ρ env k k := by
  match kd, k, hk with
  | .int _, .int kk n, _ => exact ⟨fun u hu => hu.int_inv, .int _ _⟩
  | .string, .string s, _ => exact ⟨fun u hu => hu.string_inv, .string _⟩
  | .bool, .bool p, _ => exact ⟨fun u hu => by cases hu; rfl, .bool _⟩
  | .array m e, .agg ⟨[.int k1 a, .int k2 c]⟩, _ => exact ⟨fun u hu => pair_lit hu, pair_self⟩
theorem sameBits_key {k : Value} (h : sameKey k k = some true) (n : Nat) : Instr.sameBits (n + 1) k k = true := by
  unfold sameKey at h
  split at h
  · simp [Instr.sameBits]
  · simp [Instr.sameBits, beq_toListBytes]
  · simp [Instr.sameBits]
  · simp [Instr.sameBits]
  · cases h

/-- A key is set. -/
theorem update_ok (hC : Cx P T env G) (hM : Match T env ρ H w) {t kt et : TypeId} {kd : TypeDesc} {r : Nat} {k x x' : Value} {es es2 : List (Value × Value)} {l : Loc} (hu : under T t = some (.map kt et)) (hku : under T kt = some kd) (hk : keyKind T kd k = true) (hf : H.h.find r = some (.map es)) (e : ρ r = some l) (hp : putE k x es = some es2) (hx : VR ρ env x x') :
    ∃ w', (Instr.mapUpdate t (.map (some l.blk)) k x').run P w = .ok () w' ∧ Post T env ρ H w ρ (putO (killM r H) r (some (.map es2))) w' := by
  obtain ⟨l', e', hO⟩ := hM.obj r _ hf
  rw [e] at e'
  obtain rfl := Option.some.inj e'
  obtain ⟨es', c, hh, hMap⟩ := hO
  have hlit := (keyKind_lit (ρ := ρ) (env := env) hk).2
  unfold putE at hp
  cases hl : lookE k es with
  | none => rw [hl] at hp; simp at hp
  | some q =>
    rw [hl] at hp
    obtain ⟨hall, hcase⟩ := findKey_ok (P := P) (w := w) hC.tabs hku hk hMap hl
    have hall' := (lookE_some hl).1
    rcases hcase with ⟨rfl, hrun, hno⟩ | ⟨u, j, en, rfl, hj, hs, _, hrun⟩
    · obtain rfl := Option.some.inj hp
      have hno' : ∀ p ∈ es, sameKey k p.1 = some false := by
        rcases (lookE_some hl).2 with ⟨_, h⟩ | ⟨_, h, _⟩
        · exact h
        · cases h
      refine ⟨_, ?_, set_map hM hf e (o' := .map (es'.push { key := k, val := x', born := c }) (c + 1)) fun w1 h1 => ⟨_, _, h1, hMap.ins hlit hx hno'⟩⟩
      simp only [Instr.mapUpdate, Sem.run_bind, run_under hC.tabs hu, Result.andThen_ok, run_getMap hh, checkKey_ok hC hku hk, hrun, run_setMap _ hh]
    · obtain rfl := Option.some.inj hp
      refine ⟨_, ?_, set_map hM hf e (o' := .map (es'.modify j fun en => { en with key := k, val := x' }) c) fun w1 h1 => ⟨_, _, h1, hMap.rep hlit hx hall' hj hs⟩⟩
      have hek : en.key = k := (sameKey_true hs).symm
      have hstay : (Instr.keyThatStays (((es'[j]?).map (·.key)).getD k) k).run P w = .ok k w := by
        rw [Array.getElem?_toList] at hj
        rw [hj]
        simp only [Option.map_some, Option.getD_some, hek]
        simp [Instr.keyThatStays, sameBits_key (sameKey_self hs).1]
      simp only [Instr.mapUpdate, Sem.run_bind, run_under hC.tabs hu, Result.andThen_ok, run_getMap hh, checkKey_ok hC hku hk, hrun, hstay, run_setMap _ hh]

section
variable (hC : Cx P T env G) (hA : At T env G ρ F H a w) (hf : Free ρ H.n H'.n) (hB : opB G o.op = true) (hE : evOp T o.op F H = some (.val v H'))
include hA hB hE

include hC in
theorem val_update {t : TypeId} {m k x : Operand} (ho : o.op = .mapUpdate t m k x ∨ o.op = .insert t m k x) : Done P T env o ρ H a w v H' := by
  have hE' : rh (updateV T t (evalO F m) (evalO F k) (evalO F x) H) = some (.val v H') := by
    rcases ho with ho | ho <;> rw [ho] at hE
    · simpa only [evOp, ev_mapUpdate] using hE
    · simpa only [evOp, ev_insert] using hE
  have hB' : operB G m = true ∧ operB G k = true ∧ operB G x = true := by
    rcases ho with ho | ho <;> rw [ho] at hB <;> simpa [opB, Op.operands] using hB
  have hm := evalO_ok hA.fr hA.fx hB'.1
  have hk := evalO_ok hA.fr hA.fx hB'.2.1
  have hx := evalO_ok hA.fr hA.fx hB'.2.2
  obtain ⟨H1, hup, hr⟩ := rh_some hE'
  obtain ⟨rfl, rfl⟩ : v = undefV ∧ H' = H1 := by simpa using hr
  unfold updateV at hup
  split at hup
  rotate_left
  · cases hup
  rename_i kt et hu
  split at hup
  rotate_left
  · cases hup
  rename_i kd hku
  simp only [cond_eq] at hup
  split at hup
  rotate_left
  · cases hup
  rename_i hkk
  split at hup
  rotate_left
  · cases hup
  rename_i r hmv
  split at hup
  rotate_left
  · cases hup
  rename_i es hfind
  split at hup
  rotate_left
  · cases hup
  rename_i es2 hp
  obtain rfl := Option.some.inj hup
  rw [hmv] at hm
  generalize hme : a.eval m = m' at hm
  cases hm with
  | @map _ l e =>
    have hke := (keyKind_lit (ρ := ρ) (env := env) hkk).1 _ hk
    obtain ⟨w', h1, h2⟩ := update_ok hC hA.ok hu hku hkk hfind e hp hx
    refine ⟨ρ, undef, w', .inr ⟨rfl, ?_⟩, .tuple .nil, h2⟩
    rcases ho with ho | ho <;> simp [execOp, ho, hme, hke, h1]

include hC in
theorem val_lookup {t : TypeId} {x k : Operand} {ok : Bool} (ho : o.op = .lookup t x k ok) : Done P T env o ρ H a w v H' := by
  rw [ho] at hE hB
  simp only [evOp, ev_lookup] at hE
  simp [opB, Op.operands] at hB
  have hx := evalO_ok hA.fr hA.fx hB.1
  have hk := evalO_ok hA.fr hA.fx hB.2
  obtain ⟨u, hl, hr⟩ := rv_some hE
  obtain ⟨rfl, rfl⟩ : v = u ∧ H' = H := by simpa using hr
  unfold lookupV at hl
  split at hl
  rotate_left
  · cases hl
  rename_i kt et hu
  split at hl
  rotate_left
  · cases hl
  rename_i kd hku
  simp only [cond_eq] at hl
  split at hl
  rotate_left
  · cases hl
  rename_i hkk
  have hke := (keyKind_lit (ρ := ρ) (env := env) hkk).1 _ hk
  split at hl
  · cases hl
  rename_i es hes
  -- the entries in memory
  have hmem : ∃ es' : Array MapEntry, ∃ c, MapOK ρ env es es' c ∧ ∀ (p : Option (Nat × Value)) (y' : Value) (b : Bool), (Instr.findKey kt (evalO F k) es'.toList).run P w = .ok p w → (match p with | some (_, u) => y' = u ∧ b = true | none => zeroOf T et = some y' ∧ b = false) →
      (execOp a.eval o).run P w = .ok (.value (if ok then .tuple #[y', .bool b] else y')) w := by
    split at hes
    · rename_i hxv
      obtain rfl := Option.some.inj hes
      rw [hxv] at hx
      generalize hxe : a.eval x = x' at hx
      cases hx
      refine ⟨#[], 0, ⟨⟨[], .nil, .nil⟩, trivial, by simp, by simp⟩, fun p y' b h1 h2 => ?_⟩
      cases p with
      | none =>
        obtain ⟨hz, rfl⟩ := h2
        simp [execOp, ho, hxe, hke, Instr.lookup, run_under hC.tabs hu, checkKey_ok hC hku hkk, h1, run_zero hC.tabs hz]
      | some q =>
        obtain ⟨i, u⟩ := q
        obtain ⟨rfl, rfl⟩ := h2
        simp [execOp, ho, hxe, hke, Instr.lookup, run_under hC.tabs hu, checkKey_ok hC hku hkk, h1]
    · rename_i r hxv
      split at hes
      · rename_i es0 hfind
        obtain rfl := Option.some.inj hes
        rw [hxv] at hx
        generalize hxe : a.eval x = x' at hx
        cases hx with
        | @map _ l e =>
          obtain ⟨l', e', hO⟩ := hA.ok.obj r _ hfind
          rw [e] at e'
          obtain rfl := Option.some.inj e'
          obtain ⟨es', c, hh, hMap⟩ := hO
          refine ⟨es', c, hMap, fun p y' b h1 h2 => ?_⟩
          cases p with
          | none =>
            obtain ⟨hz, rfl⟩ := h2
            simp [execOp, ho, hxe, hke, Instr.lookup, run_under hC.tabs hu, run_getMap hh, checkKey_ok hC hku hkk, h1, run_zero hC.tabs hz]
          | some q =>
            obtain ⟨i, u⟩ := q
            obtain ⟨rfl, rfl⟩ := h2
            simp [execOp, ho, hxe, hke, Instr.lookup, run_under hC.tabs hu, run_getMap hh, checkKey_ok hC hku hkk, h1]
      · cases hes
    · cases hes
  obtain ⟨es', c, hMap, run⟩ := hmem
  cases hlk : lookE (evalO F k) es with
  | none => rw [hlk] at hl; simp at hl
  | some q =>
    rw [hlk] at hl
    obtain ⟨_, hcase⟩ := findKey_ok (P := P) (w := w) hC.tabs hku hkk hMap hlk
    rcases hcase with ⟨rfl, hrun, hno⟩ | ⟨u, j, en, rfl, hj, hs, hvv, hrun⟩
    · simp only at hl
      split at hl
      · rename_i z hz
        obtain rfl := Option.some.inj hl
        have hzz := closed_self (ρ := ρ) (env := env) (hC.zero et z hz)
        have hr := run none z false hrun ⟨hz, rfl⟩
        cases ok with
        | true => exact Done.same hA hr (.tuple (.cons hzz (.cons (.bool false) .nil)))
        | false => exact Done.same hA hr hzz
      · cases hl
    · simp only at hl
      obtain rfl := Option.some.inj hl
      have hr := run (some (j, en.val)) en.val true hrun ⟨rfl, rfl⟩
      cases ok with
      | true => exact Done.same hA hr (.tuple (.cons hvv (.cons (.bool true) .nil)))
      | false => exact Done.same hA hr hvv
end
end
end Go.Proofs.Ytddknmgajacofaa.Ev

/-
  An evaluator of Go code on closed data: entries of maps, and iterators.
-/
namespace Go.Proofs.Ytddknmgajacofaa.Ev
open Go

section
variable {P : Program} {T : TT TypeInfo} {env : Nat → Value} {G : Nat} {ρ : Ren} {F : Fr} {H H' : HS} {a : Act} {w : World} {v : Value} {o : Oper}

/-- Something that hangs on a map is made: an iterator, or the place of an entry. -/
theorem Post.hang {ob : AObj} {H₁ : HS} {w₁ : World} {r : Nat} {es : List (Value × Value)} (hM : Match T env ρ H w) (hn : newO H ob = some H₁) (hf : ρ H.n = none) (hd : ob.dep = some r) (hr : H.h.find r = some (.map es)) (l : Loc) (hl : ob.owns = true → w.heap.size ≤ l.blk) (hw : Upd Nowhere w w₁)
    (hob : ObjOK T (bind ρ H.n l) env w₁ ob l) : Post T env ρ H w (bind ρ H.n l) { H₁ with its := (H.n, r) :: H₁.its } w₁ := by
  have hle := bind_le l hf
  simp only [newO, cond_eq] at hn
  split at hn
  rotate_left
  · cases hn
  rename_i hlt
  have hlt' : H.n < idMost := by have : H.n + 1 ≤ idMost := (by simpa [Nat.blt] using hlt); exact this
  obtain rfl := Option.some.inj hn
  have hnew : (TT.set 40 H.h H.n (some ob)).find H.n = some ob := TT.find_set 40 _ _ _ (find_lt hlt')
  have hold : ∀ id, id ≠ H.n → (TT.set 40 H.h H.n (some ob)).find id = H.h.find id := fun id h => TT.find_set_ne 40 _ _ _ _ (Ne.symm h)
  have hnone : ∀ o, H.h.find H.n ≠ some o := fun o h => by obtain ⟨l, e, _⟩ := hM.obj _ o h; rw [hf] at e; cases e
  have hrn : r ≠ H.n := fun h => hnone _ (h ▸ hr)
  have conv : ∀ j oj, (TT.set 40 H.h H.n (some ob)).find j = some oj → (j = H.n ∧ oj = ob) ∨ (j ≠ H.n ∧ H.h.find j = some oj) := by
    intro j oj hj
    by_cases h1 : j = H.n
    · subst h1; rw [hnew] at hj; exact .inl ⟨rfl, (Option.some.inj hj).symm⟩
    · rw [hold j h1] at hj; exact .inr ⟨h1, hj⟩
  have olds : ∀ id o l', H.h.find id = some o → ρ id = some l' → ObjOK T (bind ρ H.n l) env w₁ o l' := by
    intro id o l' h e
    obtain ⟨l'', e', hO⟩ := hM.obj id o h
    rw [e] at e'
    obtain rfl := Option.some.inj e'
    refine (hO.frame (w' := w₁) (fun hown => hw.block _ (hO.lt hown) fun h => h.elim) fun m lm hdep hlm => ?_).mono hle
    obtain ⟨_, es, hes⟩ := hM.its id o m h hdep
    obtain ⟨l3, e3, hO3⟩ := hM.obj m _ hes
    rw [hlm] at e3
    obtain rfl := Option.some.inj e3
    exact hw.block _ (hO3.lt rfl) fun h => h.elim
  refine ⟨fun id hid => bind_ne ρ l (by simp at hid; omega), hle, by simp, ⟨?_, ?_, ?_, ?_⟩, hw.mono fun _ _ h => h.elim, ?_⟩
  · intro j oj hj
    rcases conv j oj hj with ⟨rfl, rfl⟩ | ⟨h1, h3⟩
    · exact ⟨l, bind_self ρ _ l, hob⟩
    · obtain ⟨lj, ej, _⟩ := hM.obj j oj h3
      exact ⟨lj, hle _ _ ej, olds j oj lj h3 ej⟩
  · intro j j' oj oj' la lb hj hj' o1 o2 ea eb hb
    rcases conv j oj hj with ⟨rfl, rfl⟩ | ⟨h1, h3⟩ <;> rcases conv j' oj' hj' with ⟨rfl, rfl⟩ | ⟨h1', h3'⟩
    · rfl
    · rw [bind_self] at ea
      rw [bind_ne ρ l h1'] at eb
      obtain rfl := Option.some.inj ea
      have := hM.live_lt ⟨j', oj', lb, h3', o2, eb, rfl⟩
      have := hl o1
      omega
    · rw [bind_self] at eb
      rw [bind_ne ρ l h1] at ea
      obtain rfl := Option.some.inj eb
      have := hM.live_lt ⟨j, oj, la, h3, o1, ea, rfl⟩
      have := hl o2
      omega
    · rw [bind_ne ρ l h1] at ea
      rw [bind_ne ρ l h1'] at eb
      exact hM.inj j j' oj oj' la lb h3 h3' o1 o2 ea eb hb
  · intro z oz m hz hdz
    rcases conv z oz hz with ⟨rfl, rfl⟩ | ⟨h1, h3⟩
    · rw [hd] at hdz
      obtain rfl := Option.some.inj hdz
      refine ⟨by simp, es, ?_⟩
      simp only
      rw [hold r hrn]
      exact hr
    · obtain ⟨a1, es', a2⟩ := hM.its z oz m h3 hdz
      refine ⟨by simp [a1], es', ?_⟩
      simp only
      rw [hold m fun hh => hnone _ (hh ▸ a2)]
      exact a2
  · intro j oj hj
    rcases conv j oj hj with ⟨rfl, rfl⟩ | ⟨h1, h3⟩
    · exact hlt'
    · exact hM.small j oj h3
  · rintro k ⟨j, oj, lj, hj, hown, ej, rfl⟩
    rcases conv j oj hj with ⟨rfl, rfl⟩ | ⟨h1, h3⟩
    · rw [bind_self] at ej
      obtain rfl := Option.some.inj ej
      exact .inr (hl hown)
    · rw [bind_ne ρ l h1] at ej
      exact .inl ⟨j, oj, lj, h3, hown, ej, rfl⟩

section
variable (hC : Cx P T env G) (hA : At T env G ρ F H a w) (hf : Free ρ H.n H'.n) (hB : opB G o.op = true) (hE : evOp T o.op F H = some (.val v H'))
include hA hB hE

include hC hf in
set_option maxHeartbeats 1000000 in
theorem val_mapEntry {t : TypeId} {m k : Operand} (ho : o.op = .mapEntry t m k) : Done P T env o ρ H a w v H' := by
  rw [ho] at hE hB
  simp only [evOp, ev_mapEntry] at hE
  simp [opB, Op.operands] at hB
  have hm := evalO_ok hA.fr hA.fx hB.1
  have hk := evalO_ok hA.fr hA.fx hB.2
  split at hE
  rotate_left
  · cases hE
  rename_i kt et hu
  split at hE
  rotate_left
  · cases hE
  rename_i kd r z hku hmv hz
  simp only [cond_eq] at hE
  split at hE
  rotate_left
  · cases hE
  rename_i hkk
  split at hE
  rotate_left
  · cases hE
  rename_i es hfind
  split at hE
  rotate_left
  · cases hE
  rename_i q hlk
  split at hE
  rotate_left
  · cases hE
  rename_i es2 hp
  split at hE
  rotate_left
  · cases hE
  rename_i H1 hn
  simp only [Option.some.injEq, OR.val.injEq] at hE
  obtain ⟨rfl, rfl⟩ := hE
  rw [hmv] at hm
  generalize hme : a.eval m = m' at hm
  cases hm with
  | @map _ l e =>
  have hke := (keyKind_lit (ρ := ρ) (env := env) hkk).1 _ hk
  have hlit := (keyKind_lit (ρ := ρ) (env := env) hkk).2
  obtain ⟨l', e', hO⟩ := hA.ok.obj r _ hfind
  rw [e] at e'
  obtain rfl := Option.some.inj e'
  obtain ⟨es', c, hh, hMap⟩ := hO
  have hlt : l.blk < w.heap.size := lt_of_heap hh
  obtain ⟨_, hcase⟩ := findKey_ok (P := P) (w := w) hC.tabs hku hkk hMap hlk
  have hall' := (lookE_some hlk).1
  obtain ⟨k1, k2, k3, k4⟩ := killM_ok hA.ok r
  have hkn : (putO (killM r H) r (some (AObj.map es2))).n = H.n := k2
  have hfr : ρ H.n = none := by
    refine hf H.n (Nat.le_refl _) ?_
    have : (putO (killM r H) r (some (AObj.map es2))).n < H1.n := by
      simp only [newO, cond_eq] at hn
      split at hn
      · obtain rfl := Option.some.inj hn; simp
      · cases hn
    simp only
    omega
  -- the map as it is then
  have step : ∀ (esn : Array MapEntry) (cn : Nat) (en : MapEntry) (u : Value), MapOK ρ env es2 esn cn → en ∈ esn.toList → VR ρ env (evalO F k) en.key → VR ρ env u en.val →
      (execOp a.eval o).run P w = .ok (.value (.tuple #[en.val, .int .i64 en.born])) (setBlk w l.blk (.map esn cn)) →
      Done P T env o ρ H a w (.tuple ⟨[u, .complex .f32 H.n 0]⟩) { H1 with its := (H.n, r) :: H1.its } := by
    intro esn cn en u hMn hen hken huv hrun
    have p1 := set_map hA.ok hfind e (es2 := es2) (o' := .map esn cn) fun w1 h1 => ⟨_, _, h1, hMn⟩
    have hfind2 : (putO (killM r H) r (some (AObj.map es2))).h.find r = some (.map es2) := TT.find_set 40 _ _ _ (find_lt (hA.ok.small _ _ hfind))
    let lz : Loc := ⟨0, en.born, 0⟩
    have hfr2 : ρ (putO (killM r H) r (some (AObj.map es2))).n = none := by rw [hkn]; exact hfr
    have p2 := Post.hang p1.ok hn hfr2 (r := r) rfl hfind2 lz (by simp [AObj.owns]) (Upd.refl Nowhere _) (by
      refine ⟨l, esn, cn, bind_le _ hfr2 _ _ e, setBlk_self _ hlt, en, hen, hken.mono (bind_le _ hfr2), rfl⟩)
    rw [hkn] at p2
    refine ⟨bind ρ H.n lz, _, _, .inl hrun, ?_, p1.trans p2⟩
    exact .tuple (.cons (huv.mono (bind_le _ hfr)) (.cons (.stamp (bind_self ρ H.n lz)) .nil))
  unfold putE at hp
  rw [hlk] at hp
  rcases hcase with ⟨rfl, hrun, hno⟩ | ⟨u, j, en, rfl, hj, hs, hvv, hrun⟩
  · have hno' : ∀ p ∈ es, sameKey (evalO F k) p.1 = some false := by
      rcases (lookE_some hlk).2 with ⟨_, h⟩ | ⟨_, h, _⟩
      · exact h
      · cases h
    obtain rfl := Option.some.inj hp
    have hzz := closed_self (ρ := ρ) (env := env) (hC.zero et z hz)
    refine step (es'.push { key := evalO F k, val := z, born := c }) (c + 1) { key := evalO F k, val := z, born := c } z (hMap.ins hlit hzz hno') (by simp) hlit hzz ?_
    simp [execOp, ho, hme, hke, Instr.mapEntry, run_under hC.tabs hu, run_getMap hh, checkKey_ok hC hku hkk, hrun, run_zero hC.tabs hz, run_setMap _ hh, goInt]
  · obtain rfl := Option.some.inj hp
    have hek : en.key = evalO F k := (sameKey_true hs).symm
    have hj' : es'[j]? = some en := by rw [← Array.getElem?_toList]; exact hj
    have harr : (es'.modify j fun en' => { en' with key := evalO F k }) = es'.modify j fun en' => { en' with key := evalO F k, val := en.val } := by
      apply Array.ext_getElem?
      intro i
      rw [Array.getElem?_modify, Array.getElem?_modify]
      by_cases hij : j = i
      · subst hij
        simp [hj']
      · simp [hij]
    have hmemj : (en : MapEntry) ∈ (es'.modify j fun en' => { en' with key := evalO F k, val := en.val }).toList := by
      apply List.mem_of_getElem? (i := j)
      rw [Array.getElem?_toList, Array.getElem?_modify, if_pos rfl, hj']
      simp only [Option.map_some]
      congr 1
      rw [← hek]
    refine step (es'.modify j fun en' => { en' with key := evalO F k, val := en.val }) c en u (hMap.rep hlit hvv hall' hj hs) hmemj (by rw [hek]; exact hlit) hvv ?_
    have hstay : (Instr.keyThatStays en.key (evalO F k)).run P w = .ok (evalO F k) w := by
      rw [hek]
      simp [Instr.keyThatStays, sameBits_key (sameKey_self hs).1]
    rw [← harr]
    simp only [execOp, ho, hme, hke, Instr.mapEntry, Sem.run_bind, run_under hC.tabs hu, Result.andThen_ok, run_getMap hh, checkKey_ok hC hku hkk, hrun, goInt, Sem.run_pure, hj', Option.map_some, Option.getD_some, hstay, run_setMap _ hh]

include hC in
set_option maxHeartbeats 1000000 in
theorem val_entryStore {t : TypeId} {m st x : Operand} (ho : o.op = .entryStore t m st x) : Done P T env o ρ H a w v H' := by
  have _ := hC
  rw [ho] at hE hB
  simp only [evOp, ev_entryStore] at hE
  simp [opB, Op.operands] at hB
  have hm := evalO_ok hA.fr hA.fx hB.1
  have hst := evalO_ok hA.fr hA.fx hB.2.1
  have hx := evalO_ok hA.fr hA.fx hB.2.2
  split at hE
  rotate_left
  · cases hE
  rename_i r z hmv hzv
  split at hE
  rotate_left
  · cases hE
  rename_i r' k es hfz hfr
  simp only [cond_eq, Nat.beq_eq] at hE
  split at hE
  rotate_left
  · cases hE
  rename_i hrr
  subst hrr
  split at hE
  rotate_left
  · cases hE
  rename_i es2 hp
  obtain ⟨H1, hH, hr⟩ := rh_some hE
  obtain rfl := Option.some.inj hH
  obtain ⟨rfl, rfl⟩ : v = undefV ∧ H' = _ := by simpa using hr
  rw [hmv] at hm
  rw [hzv] at hst
  generalize hme : a.eval m = m' at hm
  generalize hse : a.eval st = s' at hst
  cases hm with
  | @map _ l e =>
  cases hst with
  | @stamp _ lz ez =>
  obtain ⟨lz', ez', hOz⟩ := hA.ok.obj z _ hfz
  rw [ez] at ez'
  obtain rfl := Option.some.inj ez'
  obtain ⟨l2, es', c, e2, hh, en, hen, hken, hborn⟩ := hOz
  rw [e] at e2
  obtain rfl := Option.some.inj e2
  obtain ⟨l3, e3, hOr⟩ := hA.ok.obj r' _ hfr
  rw [e] at e3
  obtain rfl := Option.some.inj e3
  obtain ⟨es3, c3, hh3, hMap⟩ := hOr
  rw [hh] at hh3
  obtain ⟨rfl, rfl⟩ : es' = es3 ∧ c = c3 := by simpa using hh3
  unfold putE at hp
  cases hlk : lookE k es with
  | none => rw [hlk] at hp; simp at hp
  | some q =>
    have hall' := (lookE_some hlk).1
    obtain ⟨⟨L, hE', hperm⟩, hd, _, honce⟩ := id hMap
    -- the entry is there
    obtain ⟨p, hpm, hpk, hpv⟩ := hE'.mem.1 en (hperm.mem_iff.2 hen)
    obtain ⟨b0, hb0⟩ := hall' p hpm
    have hkk := sameKey_lit (ρ := ρ) (env := env) hb0
    have hekp : en.key = p.1 := hkk.2.1 _ hpk
    have hekk : en.key = k := hkk.1 _ hken
    have hs : sameKey k en.key = some true := by rw [hekk]; exact (sameKey_self hb0).1
    have hq : ∃ u, q = some u := by
      rcases (lookE_some hlk).2 with ⟨rfl, hno⟩ | ⟨u, rfl, _⟩
      · have := hno p hpm
        rw [← hekp, hs] at this
        cases this
      · exact ⟨u, rfl⟩
    obtain ⟨u, rfl⟩ := hq
    rw [hlk] at hp
    obtain rfl := Option.some.inj hp
    obtain ⟨j, hj⟩ := List.getElem?_of_mem hen
    have hj' : es'[j]? = some en := by rw [← Array.getElem?_toList]; exact hj
    have hfi : es'.findIdx? (fun e => (e.born : Int) == (lz.base : Int)) = some j := by
      rw [Array.findIdx?_eq_some_iff_getElem]
      have hjl : j < es'.size := (Array.getElem?_eq_some_iff.1 hj').1
      refine ⟨hjl, ?_, fun i hi => ?_⟩
      · have : es'[j] = en := (Array.getElem?_eq_some_iff.1 hj').2
        rw [this, hborn]
        simp
      · have hne := List.pairwise_iff_getElem.1 honce i j (by simp; omega) (by simpa using hjl) hi
        simp only [Array.getElem_toList] at hne
        have : es'[j] = en := (Array.getElem?_eq_some_iff.1 hj').2
        rw [this, hborn] at hne
        simp only [beq_iff_eq]
        exact fun hh => hne (by exact_mod_cast hh)
    have harr : (es'.modify j fun en' => { en' with val := a.eval x }) = es'.modify j fun en' => { en' with key := k, val := a.eval x } := by
      apply Array.ext_getElem?
      intro i
      rw [Array.getElem?_modify, Array.getElem?_modify]
      by_cases hij : j = i
      · subst hij
        simp [hj', hekk]
      · simp [hij]
    refine ⟨ρ, undef, _, .inr ⟨rfl, ?_⟩, .tuple .nil, set_map hA.ok hfr e (o' := .map (es'.modify j fun en' => { en' with key := k, val := a.eval x }) c) fun w1 h1 => ⟨_, _, h1, hMap.rep hkk.2.2.1 hx hall' hj hs⟩⟩
    rw [← harr]
    simp only [execOp, ho, hme, hse, Instr.entryStore, Sem.run_bind, run_getMap hh, Result.andThen_ok, asInt, asIntOf, Sem.run_pure, hfi, run_setMap _ hh]
end
end
end Go.Proofs.Ytddknmgajacofaa.Ev

/-
  An evaluator of Go code on closed data: iterators over maps; slices that are built.
-/
namespace Go.Proofs.Ytddknmgajacofaa.Ev
open Go

section
variable {P : Program} {T : TT TypeInfo} {env : Nat → Value} {G : Nat} {ρ : Ren} {F : Fr} {H H' : HS} {a : Act} {w : World} {v : Value} {o : Oper}

section
variable (hC : Cx P T env G) (hA : At T env G ρ F H a w) (hf : Free ρ H.n H'.n) (hB : opB G o.op = true) (hE : evOp T o.op F H = some (.val v H'))
include hA hB hE

include hC hf in
theorem val_buildSlice {t : TypeId} {len : Nat} {ps : Array (Nat × Operand)} (ho : o.op = .buildSlice t len ps) : Done P T env o ρ H a w v H' := by
  rw [ho] at hE hB
  simp only [evOp, ev_buildSlice] at hE
  simp only [opB, Op.operands] at hB
  have hps := evalP_ok hA.fr hA.fx (l := ps.toList) (by simpa using hB)
  have hmap : (ps.map fun (i, x) => (i, a.eval x)).toList = ps.toList.map fun (i, x) => (i, a.eval x) := by simp
  split at hE
  rotate_left
  · cases hE
  rename_i e hu
  split at hE
  rotate_left
  · cases hE
  rename_i s z hs hz
  simp only [cond_eq] at hE
  split at hE
  rotate_left
  · cases hE
  rename_i hg
  simp only [Bool.and_eq_true, Nat.ble_eq, Nat.beq_eq, lenL_eq] at hg
  obtain ⟨hlm, hsm, hzs⟩ := hg
  split at hE
  rotate_left
  · cases hE
  rename_i l hfl
  obtain ⟨H1, hn, hr⟩ := newV_some hE
  obtain ⟨rfl, rfl⟩ : v = .slice (some ⟨H.n, 0, none⟩) len len ∧ H' = H1 := by simpa using hr
  have hzv : VRs ρ env (vcells z) z.cells.toList := (closed_self (ρ := ρ) (hC.zero e z hz)).cells hC.one
  obtain ⟨r', h1, h2⟩ := fillV_run hC.one hps (repL_ok hzv len) hfl
  obtain ⟨ρ', e1, p1⟩ := new_cells hA.ok h2 hn hf
  have hzs' : z.cells.size = s := by rw [← Array.length_toList, ← vcells_eq, hzs]
  refine ⟨ρ', _, _, .inl ?_, VR.sl (o := 0) len e1 (by unfold OPEN; omega), p1⟩
  have hbig : ¬ (len * s > 2 ^ 24) := by omega
  simp only [execOp, ho, Instr.buildSlice, Sem.run_bind, run_under hC.tabs hu, Result.andThen_ok, run_size hC.tabs hs, if_neg hbig, Sem.run_pure, hmap]
  by_cases hs0 : len * s = 0
  · have hnil : repL len z.cells.toList = [] := List.eq_nil_of_length_eq_zero (by rw [repL_len, ← vcells_eq, hzs]; exact hs0)
    rw [hnil] at h1
    have hz0 : ∀ f : Nat → Value, Array.map f (Array.range 0) = ⟨[]⟩ := fun f => by apply Array.ext'; simp
    simp only [hs0, if_true, Sem.run_bind, Sem.run_pure, Result.andThen_ok, hz0, h1, newRow, run_newObj]
  · have hrow : ((Array.range (len * s)).map fun i => z.cells[i % z.cells.size]!) = ⟨repL len z.cells.toList⟩ := by rw [← hzs']; exact range_rep z.cells len
    simp only [if_neg hs0, Sem.run_bind, run_zero hC.tabs hz, Sem.run_pure, Result.andThen_ok, hrow, h1, newRow, run_newObj]

include hC hf in
theorem val_range {t : TypeId} {x : Operand} (ho : o.op = .range t x) : Done P T env o ρ H a w v H' := by
  rw [ho] at hE hB
  simp only [evOp, ev_range] at hE
  simp [opB, Op.operands] at hB
  have hx := evalO_ok hA.fr hA.fx hB
  split at hE
  · rename_i kt et hu hxv
    rw [hxv] at hx
    generalize hxe : a.eval x = x' at hx
    cases hx
    obtain ⟨H1, hn, hr⟩ := newV_some hE
    obtain ⟨rfl, rfl⟩ : v = ptrTo H.n ∧ H' = H1 := by simpa using hr
    have hfr := newO_free hn hf
    refine ⟨bind ρ H.n ⟨w.heap.size, 0, 0⟩, _, _, .inl ?_, VR.ptr (o := 0) (bind_self ρ H.n _), Post.new hA.ok hn hfr rfl ⟨w.heap.size, 0, 0⟩ (Nat.le_refl _) (push_upd w (.mapIter none 0 #[] 0)) ?_⟩
    · simp [execOp, ho, hxe, Instr.range, run_under hC.tabs hu]
    · exact ⟨rfl, 0, #[], 0, push_new w _⟩
  · rename_i kt et r hu hxv
    rw [hxv] at hx
    generalize hxe : a.eval x = x' at hx
    split at hE
    rotate_left
    · cases hE
    rename_i es hfind
    cases hx with
    | @map _ l e =>
    obtain ⟨H1, hn, hr⟩ := newV_some hE
    obtain ⟨rfl, rfl⟩ : v = ptrTo H.n ∧ H' = H1 := by simpa using hr
    obtain ⟨l', e', hO⟩ := hA.ok.obj r _ hfind
    rw [e] at e'
    obtain rfl := Option.some.inj e'
    obtain ⟨es', c, hh, hMap⟩ := hO
    -- the same with the list of iterators set behind
    have hn' : ∃ H2, newO H (.iter (some r) es none) = some H2 ∧ H' = { H2 with its := (H.n, r) :: H2.its } := by
      simp only [newO, cond_eq] at hn ⊢
      split at hn
      · rename_i hlt
        rw [if_pos hlt]
        obtain rfl := Option.some.inj hn
        exact ⟨_, rfl, rfl⟩
      · cases hn
    obtain ⟨H2, hn2, rfl⟩ := hn'
    have hfr : ρ H.n = none := newO_free hn2 hf
    let lz : Loc := ⟨w.heap.size, 0, 0⟩
    have hlt : l.blk < w.heap.size := lt_of_heap hh
    have hold : ({ w with heap := w.heap.push (.mapIter (some l.blk) c #[] c) } : World).heap[l.blk]? = some (.map es' c) := by
      simp only
      rw [Array.getElem?_push]
      simp [Nat.ne_of_lt hlt, hh]
    refine ⟨bind ρ H.n lz, .pointer (some ⟨w.heap.size, 0, none⟩), { w with heap := w.heap.push (.mapIter (some l.blk) c #[] c) }, .inl ?_, VR.ptr (o := 0) (bind_self ρ H.n lz), Post.hang hA.ok hn2 hfr (r := r) rfl hfind lz (fun _ => Nat.le_refl _) (push_upd w _) ?_⟩
    · simp [execOp, ho, hxe, Instr.range, run_under hC.tabs hu, run_getMap hh]
    · obtain ⟨L, h1, h2⟩ := hMap.some_
      refine ⟨rfl, l, es', c, #[], bind_le _ hfr _ _ e, hold, push_new w _, ⟨L, h1.mono (bind_le _ hfr), ?_⟩, fun k v h => by cases h⟩
      rw [List.filter_eq_self.2 (by simp)]
      exact h2
  · cases hE

theorem val_entry {x : Operand} (ho : o.op = .entry x) : Done P T env o ρ H a w v H' := by
  rw [ho] at hE hB
  simp only [evOp, ev_entry] at hE
  simp [opB, Op.operands] at hB
  have hx := evalO_ok hA.fr hA.fx hB
  split at hE
  rotate_left
  · cases hE
  rename_i ad hxv
  simp only [cond_eq, Nat.beq_eq] at hE
  split at hE
  rotate_left
  · cases hE
  rename_i hoff
  split at hE
  rotate_left
  · cases hE
  rename_i m left p hfind
  simp only [Option.some.injEq, OR.val.injEq] at hE
  obtain ⟨rfl, rfl⟩ := hE
  rw [hxv] at hx
  generalize hxe : a.eval x = x' at hx
  cases hx with
  | @ptr b off lz ez =>
  simp only at hoff hfind
  subst hoff
  obtain ⟨lz', ez', hO⟩ := hA.ok.obj b _ hfind
  rw [ez] at ez'
  obtain rfl := Option.some.inj ez'
  obtain ⟨hb, lm, es', c, seen, e1, e2, e3, hL, hcur⟩ := hO
  obtain ⟨pk, pv⟩ := p
  obtain ⟨en, hen, hback, hk, hv⟩ := hcur pk pv rfl
  obtain ⟨l2, hl2, hO2⟩ := hA.ok.obj m _ ((hA.ok.its b _ m hfind rfl).2.choose_spec)
  rw [e1] at hl2
  obtain rfl := Option.some.inj hl2
  obtain ⟨es3, c3, hh3, hMap⟩ := hO2
  rw [e2] at hh3
  obtain ⟨rfl, rfl⟩ : es' = es3 ∧ c = c3 := by simpa using hh3
  have hfi : es'.find? (fun e => e.born == en.born) = some en := by
    obtain ⟨j, hj⟩ := List.getElem?_of_mem hen
    have hj' : es'[j]? = some en := by rw [← Array.getElem?_toList]; exact hj
    obtain ⟨hjl, hje⟩ := Array.getElem?_eq_some_iff.1 hj'
    rw [Array.find?_eq_some_iff_getElem]
    refine ⟨by simp, j, hjl, hje, fun i hi => ?_⟩
    have hne := List.pairwise_iff_getElem.1 hMap.once i j (by simp; omega) (by simpa using hjl) hi
    simp only [Array.getElem_toList, hje] at hne
    simpa using hne
  have hg : (getObj lz.blk).run P w = .ok (.mapIter (some lm.blk) c seen c) w := by simp [getObj, Sem.run, e3]
  refine Done.same hA (v' := .tuple #[en.key, en.val]) ?_ (.tuple (.cons hk (.cons hv .nil)))
  simp only [execOp, ho, hxe, hb, Nat.add_zero, Instr.entry, Sem.run_bind, hg, Result.andThen_ok, hback, run_getMap e2, bne_self_eq_false, Bool.false_eq_true, if_false, hfi, Sem.run_pure]
end
end
end Go.Proofs.Ytddknmgajacofaa.Ev

/-
  An evaluator of Go code on closed data: the next entry of a map.
-/
namespace Go.Proofs.Ytddknmgajacofaa.Ev
open Go

section
variable {P : Program} {T : TT TypeInfo} {env : Nat → Value} {G : Nat} {ρ : Ren} {F : Fr} {H H' : HS} {a : Act} {w : World} {v : Value} {o : Oper}

/-- A name is dropped. -/
theorem Post.drop (hM : Match T env ρ H w) {id : Nat} {ob : AObj} (hf : H.h.find id = some ob) (hnm : ∀ es, ob ≠ .map es) (its' : List (Nat × Nat)) (hits : ∀ z m, (z, m) ∈ H.its → z ≠ id → (z, m) ∈ its') : Post T env ρ H w ρ { (putO H id none) with its := its' } w := by
  have hs := hM.small _ _ hf
  have sub : ∀ j o, (TT.set 40 H.h id none).find j = some o → H.h.find j = some o ∧ j ≠ id := by
    intro j o hj
    by_cases hji : id = j
    · subst hji; rw [TT.find_set 40 _ _ _ (find_lt hs)] at hj; cases hj
    · rw [TT.find_set_ne 40 _ _ _ _ hji] at hj; exact ⟨hj, Ne.symm hji⟩
  refine Post.sub hM (fun j o hj => (sub j o hj).1) fun z o m hz hd => ?_
  obtain ⟨h1, h2⟩ := sub z o hz
  obtain ⟨a1, es, a2⟩ := hM.its z o m h1 hd
  have hm : id ≠ m := fun hh => by subst hh; rw [hf] at a2; exact hnm es (Option.some.inj a2)
  exact ⟨hits z m a1 h2, es, by simp only [putO]; rw [TT.find_set_ne 40 _ _ _ _ hm]; exact a2⟩

theorem picks_mem : ∀ (pre l : List (Value × Value)) (i : Nat) (p : Value × Value), l[i]? = some p → (p, pre.reverse ++ l.eraseIdx i) ∈ picks pre l := by
  intro pre l
  induction l generalizing pre with
  | nil => intro i p h; simp at h
  | cons x l ih =>
    intro i p h
    cases i with
    | zero => simp at h; subst h; simp [picks]
    | succ i =>
      simp at h
      have := ih (x :: pre) i p h
      simp only [picks, List.mem_cons]
      right
      simpa using this
theorem ERs.erase {es : List (Value × Value)} {L : List MapEntry} (h : ERs ρ env es L) (i : Nat) : ERs ρ env (es.eraseIdx i) (L.eraseIdx i) := by
  induction h generalizing i with
  | nil => exact .nil
  | cons a b hh ih =>
    cases i with
    | zero => exact hh
    | succ i => exact .cons a b (ih i)
theorem ERs.get {es : List (Value × Value)} {L : List MapEntry} (h : ERs ρ env es L) {i : Nat} {e : MapEntry} (hi : L[i]? = some e) : ∃ p, es[i]? = some p ∧ VR ρ env p.1 e.key ∧ VR ρ env p.2 e.val := by
  induction h generalizing i with
  | nil => simp at hi
  | cons a b hh ih =>
    cases i with
    | zero => simp at hi; subst hi; exact ⟨_, rfl, a, b⟩
    | succ i => exact ih (by simpa using hi)
theorem erase_born {L : List MapEntry} (h : L.Pairwise fun a b => a.born ≠ b.born) {j : Nat} {e : MapEntry} (hj : L[j]? = some e) : L.eraseIdx j = L.filter fun x => !(x.born == e.born) := by
  induction L generalizing j with
  | nil => simp at hj
  | cons x L ih =>
    cases h with
    | cons h1 h2 =>
      cases j with
      | zero =>
        simp at hj
        subst hj
        simp only [List.eraseIdx_zero, List.tail_cons, List.filter_cons, beq_self_eq_true, Bool.not_true, Bool.false_eq_true, if_false]
        symm
        rw [List.filter_eq_self]
        intro y hy
        have := h1 y hy
        simpa using fun hh => this hh.symm
      | succ j =>
        simp at hj
        have hne := h1 e (List.mem_of_getElem? hj)
        rw [List.eraseIdx_cons_succ, List.filter_cons, ih h2 hj]
        simp [hne]

section
variable (hA : At T env G ρ F H a w) (hB : opB G o.op = true)
include hA hB

/-- What is known of an iterator. -/
theorem next_parts {x : Operand} (ho : o.op = .next x false) {ad : Addr} (hxv : evalO F x = .pointer (some ad)) (hoff : ad.off = 0) {m : Nat} {left : List (Value × Value)} {cur : Option (Value × Value)} (hfind : H.h.find ad.block = some (.iter (some m) left cur)) :
    ∃ (lz lm : Loc) (es' : Array MapEntry) (c : Nat) (seen : Array Nat) (es : List (Value × Value)), ρ ad.block = some lz ∧ lz.base = 0 ∧ a.eval x = .pointer (some ⟨lz.blk, 0, none⟩) ∧ ρ m = some lm ∧ H.h.find m = some (.map es) ∧ w.heap[lm.blk]? = some (.map es' c) ∧ w.heap[lz.blk]? = some (.mapIter (some lm.blk) c seen c) ∧
      MapOK ρ env es es' c ∧ (∃ L, ERs ρ env left L ∧ L.Perm (es'.toList.filter fun e => !seen.contains e.born)) := by
  rw [ho] at hB
  simp [opB, Op.operands] at hB
  have hx := evalO_ok hA.fr hA.fx hB
  rw [hxv] at hx
  generalize hxe : a.eval x = x' at hx
  cases hx with
  | @ptr b off lz ez =>
  simp only at hoff hfind ⊢
  subst hoff
  obtain ⟨lz', ez', hO⟩ := hA.ok.obj b _ hfind
  rw [ez] at ez'
  obtain rfl := Option.some.inj ez'
  obtain ⟨hb, lm, es', c, seen, e1, e2, e3, hL, hcur⟩ := hO
  obtain ⟨es, hes⟩ := (hA.ok.its b _ m hfind rfl).2
  obtain ⟨l2, hl2, hO2⟩ := hA.ok.obj m _ hes
  rw [e1] at hl2
  obtain rfl := Option.some.inj hl2
  obtain ⟨es3, c3, hh3, hMap⟩ := hO2
  rw [e2] at hh3
  obtain ⟨rfl, rfl⟩ : es' = es3 ∧ c = c3 := by simpa using hh3
  exact ⟨lz, lm, es', c, seen, es, ez, hb, by simp [hb], e1, hes, e2, e3, hMap, hL⟩

theorem next_guard {es' : Array MapEntry} {c : Nat} {seen : Array Nat} (hb : ∀ e ∈ es'.toList, e.born < c) : (!seen.isEmpty && !es'.isEmpty && es'.all (fun e => decide (e.born ≥ c))) = false := by
  have _ := hA
  have _ := hB
  rw [← Bool.not_eq_true]
  intro h
  simp only [Bool.and_eq_true] at h
  obtain ⟨⟨_, h1⟩, h2⟩ := h
  cases hl : es'.toList with
  | nil => simp [Array.isEmpty, ← Array.length_toList, hl] at h1
  | cons e l =>
    have := hb e (by rw [hl]; simp)
    rw [← Array.all_toList, hl] at h2
    simp at h2
    omega

theorem vals_next {x : Operand} {l : List (Value × HS)} (ho : o.op = .next x false) (hE : evOp T o.op F H = some (.vals l)) : ∃ p ∈ l, Done P T env o ρ H a w p.1 p.2 := by
  have hE0 := hE
  rw [ho] at hE
  simp only [evOp, ev_next] at hE
  split at hE
  rotate_left
  · cases hE
  rename_i ad _hf hxv
  simp only [cond_eq, Nat.beq_eq] at hE
  split at hE
  rotate_left
  · cases hE
  rename_i hoff
  split at hE
  · cases hE
  · rename_i m left cur hfind
    split at hE
    · cases hE
    rename_i hne
    simp only [Option.some.injEq, OR.vals.injEq] at hE
    subst hE
    obtain ⟨lz, lm, es', c, seen, es, ez, hb, hxe, em, hes, hh, hz, hMap, L, hEL, hperm⟩ := next_parts hA hB ho hxv hoff hfind
    -- what is left, in memory
    let lf : List MapEntry := es'.toList.filter fun e => !seen.contains e.born
    have hlf : lf ≠ [] := by
      intro h
      have h1 := hperm.length_eq
      have h2 := hEL.length
      have : left.length = 0 := by rw [h2, h1]; simp only [lf] at h; rw [h]; rfl
      exact hne (List.eq_nil_of_length_eq_zero this)
    have hborn : ∀ e ∈ lf, e.born < c := fun e he => hMap.born e (List.mem_filter.1 he).1
    have hold : (es'.filter fun e => !seen.contains e.born).filter (fun e => decide (e.born < c)) = ⟨lf⟩ := by
      apply Array.ext'
      simp only [Array.toList_filter, lf]
      rw [List.filter_eq_self]
      intro e he
      simpa using hborn e he
    have hnew : (es'.filter fun e => !seen.contains e.born).filter (fun e => decide (e.born ≥ c)) = #[] := by
      apply Array.ext'
      simp only [Array.toList_filter]
      rw [List.filter_eq_nil_iff]
      intro e he
      have := hborn e he
      simp; omega
    have hcand : ((if (⟨lf⟩ : Array MapEntry).isEmpty then #[none] else #[]) ++ ((⟨lf⟩ : Array MapEntry) ++ #[]).map some) = (⟨lf.map some⟩ : Array (Option MapEntry)) := by
      have : (⟨lf⟩ : Array MapEntry).isEmpty = false := by
        rw [Array.isEmpty_eq_false_iff]
        intro h
        exact hlf (by have := congrArg Array.toList h; simpa using this)
      rw [this]
      apply Array.ext'
      simp
    have hchoose : ∃ (k : Nat) (w1 : World) (e : MapEntry), (choose (.mapNext lf.length)).run P w = .ok k w1 ∧ lf[k]? = some e ∧ (w1 = w ∨ w1 = { w with drawn := w.drawn + 1 }) := by
      have hpos : 0 < lf.length := List.length_pos_iff.2 hlf
      rw [run_choose]
      split
      · exact ⟨0, w, lf[0], rfl, by simp, .inl rfl⟩
      · have hlt : (Question.mapNext lf.length).cut (w.tape w.drawn (.mapNext lf.length)) < lf.length := by simp only [Question.cut]; exact Nat.mod_lt _ hpos
        exact ⟨_, _, lf[(Question.mapNext lf.length).cut (w.tape w.drawn (.mapNext lf.length))], rfl, by simp, .inr rfl⟩
    obtain ⟨k, w1, e, hch, hke, hw1⟩ := hchoose
    have he : e ∈ lf := List.mem_of_getElem? hke
    obtain ⟨i, hi⟩ := List.getElem?_of_mem (hperm.mem_iff.2 he)
    obtain ⟨p, hpi, hpk, hpv⟩ := hEL.get hi
    have hmem := picks_mem [] left i p hpi
    simp only [List.reverse_nil, List.nil_append] at hmem
    refine ⟨(.tuple ⟨[.bool true, p.1, p.2]⟩, putO H ad.block (some (.iter (some m) (left.eraseIdx i) (some p)))), List.mem_map.2 ⟨_, hmem, rfl⟩, ?_⟩
    have hdrew : Post T env ρ H w ρ H w1 := by
      rcases hw1 with rfl | rfl
      · exact Post.refl hA.ok
      · exact Post.drew hA.ok
    have hheap : w1.heap = w.heap := by rcases hw1 with rfl | rfl <;> rfl
    have hz1 : w1.heap[lz.blk]? = some (.mapIter (some lm.blk) c seen c) := by rw [hheap]; exact hz
    have hh1 : w1.heap[lm.blk]? = some (.map es' c) := by rw [hheap]; exact hh
    have hne' : lm.blk ≠ lz.blk := by
      intro hb'
      rw [hb'] at hh
      rw [hz] at hh
      cases hh
    let w2 := setBlk w1 lz.blk (.mapIter (some lm.blk) c (seen.push e.born) c)
    have hset : (setObj lz.blk (.mapIter (some lm.blk) c (seen.push e.born) c)).run P w1 = .ok () w2 := by simp [setObj, Sem.run, hz1, setBlk, w2]
    refine ⟨ρ, .tuple #[.bool true, e.key, e.val], w2, .inl ?_, .tuple (.cons (.bool true) (.cons hpk (.cons hpv .nil))), hdrew.trans (Post.set hdrew.ok hfind ez rfl (setBlk_upd w1 lz.blk _) ?_ (by simp [AObj.dep]) (by simp))⟩
    · have hg : (getObj lz.blk).run P w = .ok (.mapIter (some lm.blk) c seen c) w := by simp [getObj, Sem.run, hz]
      have hguard := next_guard (seen := seen) hA hB hMap.born
      have hsz : (⟨lf.map some⟩ : Array (Option MapEntry)).size = lf.length := by simp
      have hget : (⟨lf.map some⟩ : Array (Option MapEntry))[k]? = some (some e) := by simp [hke]
      simp only [execOp, ho, hxe, Instr.next, Sem.run_bind, hg, Result.andThen_ok, run_getMap hh, hguard, Bool.false_eq_true, if_false, Sem.run_pure, hold, hnew, hcand, hsz, hch, hget, hset]
    · refine ⟨hb, lm, es', c, seen.push e.born, em, ?_, setBlk_self _ (lt_of_heap hz1), ⟨L.eraseIdx i, hEL.erase i, ?_⟩, fun kk vv hcur => ⟨e, (List.mem_filter.1 he).1, by simp, ?_⟩⟩
      · exact ((setBlk_upd w1 lz.blk _).block lm.blk (lt_of_heap hh1) hne').trans hh1
      · have hon : lf.Pairwise fun a b => a.born ≠ b.born := hMap.once.filter _
        have hon' : L.Pairwise fun a b => a.born ≠ b.born := (hperm.pairwise_iff fun hab => Ne.symm hab).2 hon
        rw [erase_born hon' hi]
        refine (hperm.filter _).trans ?_
        rw [List.filter_filter]
        apply List.Perm.of_eq
        apply List.filter_congr
        intro y _
        rw [Bool.eq_iff_iff]
        simp
        constructor
        · rintro ⟨h1, h2⟩; exact ⟨h2, h1⟩
        · rintro ⟨h1, h2⟩; exact ⟨h2, h1⟩
      · obtain rfl := Option.some.inj hcur
        exact ⟨hpk, hpv⟩
  · cases hE

theorem val_next {x : Operand} {isS : Bool} (ho : o.op = .next x isS) (hE : evOp T o.op F H = some (.val v H')) : Done P T env o ρ H a w v H' := by
  have hB0 := hB
  rw [ho] at hE
  simp only [evOp, ev_next] at hE
  split at hE
  rotate_left
  · cases hE
  rename_i ad hxv
  simp only [cond_eq, Nat.beq_eq] at hE
  split at hE
  rotate_left
  · cases hE
  rename_i hoff
  split at hE
  · rename_i left cur hfind
    simp only [Option.some.injEq, OR.val.injEq] at hE
    obtain ⟨rfl, rfl⟩ := hE
    rw [ho] at hB
    simp [opB, Op.operands] at hB
    have hx := evalO_ok hA.fr hA.fx hB
    rw [hxv] at hx
    generalize hxe : a.eval x = x' at hx
    cases hx with
    | @ptr b off lz ez =>
    simp only at hoff hfind
    subst hoff
    obtain ⟨lz', ez', hO⟩ := hA.ok.obj b _ hfind
    rw [ez] at ez'
    obtain rfl := Option.some.inj ez'
    obtain ⟨hb, p, q, r, hz⟩ := hO
    have hg : (getObj lz.blk).run P w = .ok (.mapIter none p q r) w := by simp [getObj, Sem.run, hz]
    refine Done.same hA (v' := .tuple #[.bool false]) ?_ (.tuple (.cons (.bool false) .nil))
    simp only [execOp, ho, hxe, hb, Nat.add_zero, Instr.next, Sem.run_bind, hg, Result.andThen_ok, Sem.run_pure]
  · rename_i m left cur hfind
    split at hE
    rotate_left
    · cases hE
    simp only [Option.some.injEq, OR.val.injEq] at hE
    obtain ⟨rfl, rfl⟩ := hE
    obtain ⟨lz, lm, es', c, seen, es, ez, hb, hxe, em, hes, hh, hz, hMap, L, hEL, hperm⟩ := next_parts hA hB0 ho hxv hoff hfind
    cases hEL
    have hlf : (es'.toList.filter fun e => !seen.contains e.born) = [] := List.Perm.eq_nil hperm.symm
    have hfl : (es'.filter fun e => !seen.contains e.born) = #[] := by apply Array.ext'; simpa using hlf
    have hg : (getObj lz.blk).run P w = .ok (.mapIter (some lm.blk) c seen c) w := by simp [getObj, Sem.run, hz]
    have hguard := next_guard (seen := seen) hA hB0 hMap.born
    refine ⟨ρ, .tuple #[.bool false], w, .inl ?_, .tuple (.cons (.bool false) .nil), Post.drop hA.ok hfind (by simp) _ fun z m hz hne => ?_⟩
    · have hq : (Question.mapNext 1).forced = true := by simp [Question.forced]
      simp only [execOp, ho, hxe, Instr.next, Sem.run_bind, hg, Result.andThen_ok, run_getMap hh, hguard, Bool.false_eq_true, if_false, Sem.run_pure, hfl]
      simp [hq]
    · have : ∀ l : List (Nat × Nat), (z, m) ∈ l → (z, m) ∈ dropI ad.block l := by
        intro l
        induction l with
        | nil => intro h; cases h
        | cons p l ih =>
          intro h
          obtain ⟨z', m'⟩ := p
          simp only [dropI, cond_eq, Nat.beq_eq]
          rcases List.mem_cons.1 h with h | h
          · obtain ⟨rfl, rfl⟩ : z = z' ∧ m = m' := by simpa using h
            rw [if_neg hne]
            simp
          · split
            · exact ih h
            · exact List.mem_cons_of_mem _ (ih h)
      exact this _ hz
  · cases hE
end
end
end Go.Proofs.Ytddknmgajacofaa.Ev

/-
  An evaluator of Go code on closed data: builtin functions.
-/
namespace Go.Proofs.Ytddknmgajacofaa.Ev
open Go

section
variable {P : Program} {T : TT TypeInfo} {env : Nat → Value} {G : Nat} {ρ : Ren} {F : Fr} {H H' : HS} {a : Act} {w : World} {v : Value} {o : Oper}

theorem mmGo_run {big : Bool} {k : IntKind} : ∀ {l l' : List Value} {x : Int} {r : Value}, mmGo big k x l = some r → VRs ρ env l l' →
    (List.foldlM (if big then Builtin.max2 else Builtin.min2) (Value.int k x) l').run P w = .ok r w ∧ ∃ n, r = .int k n
  | [], _, x, r, h, .nil => by
    simp [mmGo] at h
    subst h
    exact ⟨by simp, x, rfl⟩
  | y :: l, _, x, r, h, .cons hy hl => by
    unfold mmGo at h
    split at h
    · cases ‹y :: l = []›
    · rename_i k' b l0 heq
      obtain ⟨rfl, rfl⟩ : y = .int k' b ∧ l = l0 := by simpa using heq
      simp only [cond_eq] at h
      split at h
      · rename_i hk
        rw [kEq_iff] at hk
        subst hk
        have e := hy.int_inv
        subst e
        obtain ⟨h1, h2⟩ := mmGo_run h hl
        refine ⟨?_, h2⟩
        rw [List.foldlM_cons, Sem.run_bind]
        cases big
        · have : (Builtin.min2 (Value.int k x) (Value.int k b)).run P w = .ok (.int k (if ile x b = true then x else b)) w := by
            simp only [Builtin.min2, Sem.run_pure, ile_eq, decide_eq_true_eq]
            congr 2
            split <;> split <;> first | rfl | omega
          simp only [Bool.false_eq_true, if_false] at h1 ⊢
          rw [this]
          exact h1
        · have : (Builtin.max2 (Value.int k x) (Value.int k b)).run P w = .ok (.int k (if ile b x = true then x else b)) w := by
            simp only [Builtin.max2, Sem.run_pure, ile_eq, decide_eq_true_eq]
            congr 2
            split <;> split <;> first | rfl | omega
          simp only [if_true] at h1 ⊢
          rw [this]
          exact h1
      · cases h
    · cases h

theorem copyV_run (hC : Cx P T env G) (hM : Match T env ρ H w) {ts u ty : TypeId} {x y x' y' : Value} {rest : Array TypeId} (hts : rest[0]? = some ts) (h : copyV T ts x y H = some (v, H')) (hx : VR ρ env x x') (hy : VR ρ env y y') :
    ∃ v' w', (Builtin.copy_ rest ty #[x', y']).run P w = .ok v' w' ∧ VR ρ env v v' ∧ Post T env ρ H w ρ H' w' := by
  have _ := u
  unfold copyV at h
  split at h
  rotate_left
  · cases h
  rename_i e hu
  split at h
  rotate_left
  · cases h
  rename_i s A len cap m hs hm
  simp only at h
  split at h
  · cases h
  rename_i new hnew
  have hm' := lenV_run (P := P) (w := w) hm hy
  obtain ⟨new', hvn, hrn⟩ := firstsV_run (P := P) hM hnew hy
  have key : ∀ (A' : Option Addr) (c' : Nat) (w' : World), (∀ ad, A' = some ad → (storeCells ad new').run P w = .ok () w') → (A' = none → w' = w) → (Builtin.copy_ rest ty #[.slice A' len c', y']).run P w = .ok (.int .i64 (Nat.min m len : Nat)) w' := by
    intro A' c' w' h1 h2
    simp only [Builtin.copy_, hts, List.getElem?_toArray, List.getElem?_cons_zero, List.getElem?_cons_succ, Sem.run_bind, run_under hC.tabs hu, Result.andThen_ok, hm', run_size hC.tabs hs, hrn, goInt]
    cases A' with
    | none => simp [h2 rfl]
    | some ad => simp [h1 ad rfl]
  split at h
  · rename_i ad v0 vs
    split at h
    rotate_left
    · cases h
    rename_i H1 hset
    simp only [Option.some.injEq, Prod.mk.injEq] at h
    obtain ⟨rfl, rfl⟩ := h
    cases hx with
    | @sl b off lc _ _ e' hc =>
      obtain ⟨w', r1, r2⟩ := setC_run (P := P) hC.one hM hset hvn e'
      exact ⟨_, w', key _ _ w' (fun ad h => by obtain rfl := Option.some.inj h; exact r1) (fun h => by cases h), .int _ _, r2⟩
    | @slo b off lc _ _ c' e' hc =>
      obtain ⟨w', r1, r2⟩ := setC_run (P := P) hC.one hM hset hvn e'
      exact ⟨_, w', key _ _ w' (fun ad h => by obtain rfl := Option.some.inj h; exact r1) (fun h => by cases h), .int _ _, r2⟩
  · rename_i hno
    simp only [Option.some.injEq, Prod.mk.injEq] at h
    obtain ⟨rfl, rfl⟩ := h
    have hnil : ∀ ad, A = some ad → new' = [] := by
      intro ad hA
      cases hvn with
      | nil => rfl
      | cons h1 h2 => exact (hno ad _ _ hA rfl).elim
    cases hx with
    | snil _ _ => exact ⟨_, w, key none _ w (fun ad h => by cases h) (fun _ => rfl), .int _ _, Post.refl hM⟩
    | sl _ e' hc => exact ⟨_, w, key _ _ w (fun ad _ => by rw [hnil _ rfl]; rfl) (fun h => by cases h), .int _ _, Post.refl hM⟩
    | slo _ e' hc => exact ⟨_, w, key _ _ w (fun ad _ => by rw [hnil _ rfl]; rfl) (fun h => by cases h), .int _ _, Post.refl hM⟩

theorem builtin_run (b : Builtin) (ts : Array TypeId) (ty : TypeId) (cs : Array Bool) (args : Array Value) {s : Sem Value} (hb : builtin b ts ty cs args = (do pure (.value (← s)))) {v' : Value} {w' : World} (hs : s.run P w = .ok v' w') : (builtin b ts ty cs args).run P w = .ok (.value v') w' := by
  rw [hb]
  simp [hs]

theorem array_two {α : Type} {x : Array α} {p q : α} (h : x.toList = [p, q]) : x = #[p, q] := by apply Array.ext'; simpa using h
theorem VRs.one {x y : Value} {l' : List Value} (h : VRs ρ env [x, y] l') : ∃ x' y', l' = [x', y'] ∧ VR ρ env x x' ∧ VR ρ env y y' := by
  cases h with
  | cons h1 h2 => cases h2 with
    | cons h2 h3 => cases h3; exact ⟨_, _, rfl, h1, h2⟩
theorem VRs.head {x : Value} {l l' : List Value} (h : VRs ρ env (x :: l) l') : ∃ x' r', l' = x' :: r' ∧ VR ρ env x x' ∧ VRs ρ env l r' := by
  cases h with
  | cons h1 h2 => exact ⟨_, _, rfl, h1, h2⟩

/-- A builtin function gives what the evaluator says. -/
theorem builtin_ok (hC : Cx P T env G) (hA : At T env G ρ F H a w) (hf : Free ρ H.n H'.n) {b : Builtin} {ts : Array TypeId} {ty : TypeId} {cs : Array Bool} {args : List Value} {args' : Array Value} (hE : builtinV T b ts.toList args H = some (.val v H')) (hargs : VRs ρ env args args'.toList) :
    ∃ ρ' v' w', (builtin b ts ty cs args').run P w = .ok (.value v') w' ∧ VR ρ' env v v' ∧ Post T env ρ H w ρ' H' w' := by
  have hM := hA.ok
  cases b <;> simp only [builtinV] at hE
  case append =>
    unfold bAppend at hE
    split at hE
    rotate_left
    · cases hE
    rename_i t u x y hts
    split at hE
    · cases hE
    · rename_i ud hni huu
      obtain ⟨u1, H1, hap, hr⟩ := rvh_some hE
      obtain ⟨rfl, rfl⟩ : v = u1 ∧ H' = H1 := by simpa using hr
      obtain ⟨x', y', hl, hx, hy⟩ := hargs.one
      rw [array_two hts, array_two hl]
      obtain ⟨ρ', v', w', r1, r2, r3⟩ := appendV_run (ty := ty) hC hM hf hap hx hy huu (fun k h => hni k h)
      exact ⟨ρ', v', w', builtin_run .append _ _ _ _ rfl r1, r2, r3⟩
    · cases hE
  case copy =>
    unfold bCopy at hE
    split at hE
    rotate_left
    · cases hE
    rename_i t rest x y hts
    obtain ⟨u1, H1, hap, hr⟩ := rvh_some hE
    obtain ⟨rfl, rfl⟩ : v = u1 ∧ H' = H1 := by simpa using hr
    obtain ⟨x', y', hl, hx, hy⟩ := hargs.one
    rw [array_two hl]
    have h0 : ts[0]? = some t := by rw [← Array.getElem?_toList, hts]; rfl
    obtain ⟨v', w', r1, r2, r3⟩ := copyV_run (u := t) (ty := ty) hC hM h0 hap hx hy
    exact ⟨ρ, v', w', builtin_run .copy _ _ _ _ rfl r1, r2, r3⟩
  case len =>
    unfold bLen at hE
    split at hE
    rotate_left
    · cases hE
    rename_i t rest x xs hts
    obtain ⟨x', r', hl, hx, _⟩ := hargs.head
    have h0 : ts[0]? = some t := by rw [← Array.getElem?_toList, hts]; rfl
    have h1 : args'[0]? = some x' := by rw [← Array.getElem?_toList, hl]; rfl
    split at hE
    · rename_i hu
      split at hE
      · rename_i s
        simp only [Option.some.injEq, OR.val.injEq] at hE
        obtain ⟨rfl, rfl⟩ := hE
        refine ⟨ρ, _, w, builtin_run .len _ _ _ _ rfl ?_, .int _ _, Post.refl hM⟩
        simp [Builtin.len_, h0, h1, run_under hC.tabs hu, hx.string_inv, goInt, lenL_eq, sL_len]
      · cases hE
    · rename_i n e hu
      simp only [Option.some.injEq, OR.val.injEq] at hE
      obtain ⟨rfl, rfl⟩ := hE
      refine ⟨ρ, _, w, builtin_run .len _ _ _ _ rfl ?_, .int _ _, Post.refl hM⟩
      simp [Builtin.len_, h0, h1, run_under hC.tabs hu, goInt]
    · rename_i e hu
      split at hE
      · rename_i n e' hu'
        simp only [Option.some.injEq, OR.val.injEq] at hE
        obtain ⟨rfl, rfl⟩ := hE
        refine ⟨ρ, _, w, builtin_run .len _ _ _ _ rfl ?_, .int _ _, Post.refl hM⟩
        simp [Builtin.len_, h0, h1, run_under hC.tabs hu, run_under hC.tabs hu', goInt]
      · cases hE
    · rename_i e hu
      split at hE
      · rename_i A n c
        simp only [Option.some.injEq, OR.val.injEq] at hE
        obtain ⟨rfl, rfl⟩ := hE
        refine ⟨ρ, .int .i64 (n : Nat), w, builtin_run .len _ _ _ _ rfl ?_, .int _ _, Post.refl hM⟩
        cases hx <;> simp [Builtin.len_, h0, h1, run_under hC.tabs hu, goInt]
      · cases hE
    · rename_i kt et hu
      split at hE
      · simp only [Option.some.injEq, OR.val.injEq] at hE
        obtain ⟨rfl, rfl⟩ := hE
        cases hx
        refine ⟨ρ, _, w, builtin_run .len _ _ _ _ rfl ?_, .int _ _, Post.refl hM⟩
        simp [Builtin.len_, h0, h1, run_under hC.tabs hu, goInt]
      · rename_i r
        split at hE
        · rename_i es hfind
          simp only [Option.some.injEq, OR.val.injEq] at hE
          obtain ⟨rfl, rfl⟩ := hE
          cases hx with
          | @map _ l e =>
          obtain ⟨l', e', hO⟩ := hM.obj r _ hfind
          rw [e] at e'
          obtain rfl := Option.some.inj e'
          obtain ⟨es', c, hh, hMap⟩ := hO
          obtain ⟨L, hL, hp⟩ := hMap.some_
          have hlen : es'.size = es.length := by rw [hL.length, hp.length_eq, Array.length_toList]
          refine ⟨ρ, _, w, builtin_run .len _ _ _ _ rfl ?_, .int _ _, Post.refl hM⟩
          simp [Builtin.len_, h0, h1, run_under hC.tabs hu, run_getMap hh, goInt, lenL_eq, hlen]
        · cases hE
      · cases hE
    · cases hE
  case max =>
    obtain ⟨u1, hmm, hr⟩ := rv_some hE
    obtain ⟨rfl, rfl⟩ : v = u1 ∧ H' = H := by simpa using hr
    unfold mmV at hmm
    split at hmm
    · rename_i k x l
      obtain ⟨x', r', hl, hx, hrr⟩ := hargs.head
      have e := hx.int_inv
      subst e
      obtain ⟨h1, n, rfl⟩ := mmGo_run (P := P) (w := w) hmm hrr
      refine ⟨ρ, _, w, builtin_run .max _ _ _ _ rfl ?_, .int _ _, Post.refl hM⟩
      simp only [Builtin.max_, hl]
      exact h1
    · cases hmm
  case min =>
    obtain ⟨u1, hmm, hr⟩ := rv_some hE
    obtain ⟨rfl, rfl⟩ : v = u1 ∧ H' = H := by simpa using hr
    unfold mmV at hmm
    split at hmm
    · rename_i k x l
      obtain ⟨x', r', hl, hx, hrr⟩ := hargs.head
      have e := hx.int_inv
      subst e
      obtain ⟨h1, n, rfl⟩ := mmGo_run (P := P) (w := w) hmm hrr
      refine ⟨ρ, _, w, builtin_run .min _ _ _ _ rfl ?_, .int _ _, Post.refl hM⟩
      simp only [Builtin.min_, hl]
      exact h1
    · cases hmm
  case clear =>
    unfold bClear at hE
    split at hE
    rotate_left
    · cases hE
    rename_i t rest x xs hts
    obtain ⟨x', r', hl, hx, _⟩ := hargs.head
    have h0 : ts[0]? = some t := by rw [← Array.getElem?_toList, hts]; rfl
    have h1 : args'[0]? = some x' := by rw [← Array.getElem?_toList, hl]; rfl
    split at hE
    · rename_i d hu
      simp only [Option.some.injEq, OR.val.injEq] at hE
      obtain ⟨rfl, rfl⟩ := hE
      cases hx
      refine ⟨ρ, _, w, builtin_run .clear _ _ _ _ rfl ?_, .tuple .nil, Post.refl hM⟩
      simp [Builtin.clear_, h0, h1, run_under hC.tabs hu]
    · rename_i d r hu
      split at hE
      · rename_i es hfind
        simp only [Option.some.injEq, OR.val.injEq] at hE
        obtain ⟨rfl, rfl⟩ := hE
        cases hx with
        | @map _ l e =>
        obtain ⟨l', e', hO⟩ := hM.obj r _ hfind
        rw [e] at e'
        obtain rfl := Option.some.inj e'
        obtain ⟨es', c, hh, hMap⟩ := hO
        refine ⟨ρ, .tuple #[], _, builtin_run .clear _ _ _ _ rfl ?_, .tuple .nil, set_map hM hfind e (o' := .map #[] c) fun w1 h1 => ⟨_, _, h1, ⟨⟨[], .nil, .nil⟩, trivial, by simp, by simp⟩⟩⟩
        simp [Builtin.clear_, h0, h1, run_under hC.tabs hu, run_getMap hh, run_setMap _ hh]
      · cases hE
    · rename_i d n c hu
      simp only [Option.some.injEq, OR.val.injEq] at hE
      obtain ⟨rfl, rfl⟩ := hE
      cases hx
      refine ⟨ρ, _, w, builtin_run .clear _ _ _ _ rfl ?_, .tuple .nil, Post.refl hM⟩
      simp [Builtin.clear_, h0, h1, run_under hC.tabs hu]
    · rename_i e ad n c hu
      simp only [cond_eq, Nat.beq_eq] at hE
      split at hE
      · rename_i hn0
        subst hn0
        simp only [Option.some.injEq, OR.val.injEq] at hE
        obtain ⟨rfl, rfl⟩ := hE
        refine ⟨ρ, .tuple #[], w, builtin_run .clear _ _ _ _ rfl ?_, .tuple .nil, Post.refl hM⟩
        cases hx <;> simp [Builtin.clear_, h0, h1, run_under hC.tabs hu]
      · rename_i hn0
        split at hE
        · rename_i z hz
          obtain ⟨H1, hset, hr⟩ := rh_some hE
          obtain ⟨rfl, rfl⟩ : v = undefV ∧ H' = H1 := by simpa using hr
          have hzv : VRs ρ env (vcells z) z.cells.toList := (closed_self (ρ := ρ) (hC.zero e z hz)).cells hC.one
          have hrow : Builtin.zeroCells z.cells n = ⟨repL n z.cells.toList⟩ := range_rep z.cells n
          have fin : ∀ (b off : Nat) (lc : Loc) (c' : Nat), ad = ⟨b, off, none⟩ → ρ b = some lc → x' = .slice (some ⟨lc.blk, lc.base + off, none⟩) n c' → ∃ ρ' v' w', (builtin .clear ts ty cs args').run P w = .ok (.value v') w' ∧ VR ρ' env undefV v' ∧ Post T env ρ H w ρ' H' w' := by
            rintro b off lc c' rfl e' rfl
            obtain ⟨w', r1, r2⟩ := setC_run (P := P) hC.one hM hset (repL_ok hzv n) e'
            refine ⟨ρ, .tuple #[], w', builtin_run .clear _ _ _ _ rfl ?_, .tuple .nil, r2⟩
            obtain ⟨n', rfl⟩ : ∃ n', n = n' + 1 := ⟨n - 1, by omega⟩
            simp [Builtin.clear_, h0, h1, run_under hC.tabs hu, run_zero hC.tabs hz, hrow, r1]
          cases hx with
          | sl _ e' _ => exact fin _ _ _ _ rfl e' rfl
          | slo _ e' _ => exact fin _ _ _ _ rfl e' rfl
        · cases hE
    · cases hE
  case delete =>
    unfold bDelete at hE
    split at hE
    rotate_left
    · cases hE
    rename_i t rest x k xs hts
    obtain ⟨x', r', hl, hx, hrr⟩ := hargs.head
    obtain ⟨k', r2, hl2, hk, _⟩ := hrr.head
    subst hl2
    have h0 : ts[0]? = some t := by rw [← Array.getElem?_toList, hts]; rfl
    have h1 : args'[0]? = some x' := by rw [← Array.getElem?_toList, hl]; rfl
    have h2 : args'[1]? = some k' := by rw [← Array.getElem?_toList, hl]; rfl
    split at hE
    rotate_left
    · cases hE
    rename_i kt et hu
    split at hE
    rotate_left
    · cases hE
    rename_i kd hku
    simp only [cond_eq] at hE
    split at hE
    rotate_left
    · cases hE
    rename_i hkk
    have hke := (keyKind_lit (ρ := ρ) (env := env) hkk).1 _ hk
    subst hke
    split at hE
    · simp only [Option.some.injEq, OR.val.injEq] at hE
      obtain ⟨rfl, rfl⟩ := hE
      cases hx
      refine ⟨ρ, .tuple #[], w, builtin_run .delete _ _ _ _ rfl ?_, .tuple .nil, Post.refl hM⟩
      simp [Builtin.delete_, h0, h1, h2, run_under hC.tabs hu, checkKey_ok hC hku hkk]
    · rename_i r
      split at hE
      rotate_left
      · cases hE
      rename_i es hfind
      split at hE
      rotate_left
      · cases hE
      rename_i q hlk
      simp only [Option.some.injEq, OR.val.injEq] at hE
      obtain ⟨rfl, rfl⟩ := hE
      cases hx with
      | @map _ l e =>
      obtain ⟨l', e', hO⟩ := hM.obj r _ hfind
      rw [e] at e'
      obtain rfl := Option.some.inj e'
      obtain ⟨es', c, hh, hMap⟩ := hO
      have hall' := (lookE_some hlk).1
      obtain ⟨_, hcase⟩ := findKey_ok (P := P) (w := w) hC.tabs hku hkk hMap hlk
      rcases hcase with ⟨rfl, hrun, hno⟩ | ⟨u, j, en, rfl, hj, hs, hvv, hrun⟩
      · have hfil : es'.toList = es'.toList.filter fun e => !keyIs k' e := by
          symm
          rw [List.filter_eq_self]
          intro e he
          simp [keyIs, isKey, hno e he]
        refine ⟨ρ, .tuple #[], _, builtin_run .delete _ _ _ _ rfl ?_, .tuple .nil, set_map hM hfind e (o' := .map es' c) fun w1 h1 => ⟨_, _, h1, hMap.del hall' hfil⟩⟩
        simp [Builtin.delete_, h0, h1, h2, run_under hC.tabs hu, run_getMap hh, checkKey_ok hC hku hkk, hrun, run_setMap _ hh]
      · have hfil : (es'.eraseIdxIfInBounds j).toList = es'.toList.filter fun e => !keyIs k' e := by
          rw [← erase_filter hMap.apart' hj hs]
          simp
        refine ⟨ρ, .tuple #[], _, builtin_run .delete _ _ _ _ rfl ?_, .tuple .nil, set_map hM hfind e (o' := .map (es'.eraseIdxIfInBounds j) c) fun w1 h1 => ⟨_, _, h1, hMap.del hall' hfil⟩⟩
        simp [Builtin.delete_, h0, h1, h2, run_under hC.tabs hu, run_getMap hh, checkKey_ok hC hku hkk, hrun, run_setMap _ hh]
    · cases hE
  all_goals cases hE
end
end Go.Proofs.Ytddknmgajacofaa.Ev
