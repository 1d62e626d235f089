/-
  Layer 7: a coder that reads: a text, a flag, a value; memory words for lists that are read.
-/
import Derived.Test.YtdfccegeihfdpaaGreatDoorPm8
import Derived.Deep.RegionHeld3
namespace Go.Proofs.YtdfccegeihfdpaaGreatDoor
open Go Go.RowKit

/-! ### an operation make whose run is known -/
section
variable {P : Program} {ops : Array Oper} {Q : Exit → Act → World → Prop} {a : Act} {w : World} {rest : List Oper} {o : Oper}
theorem wpList_make_run (hg : o.guard = none) (l c : Operand) (t : TypeId) (ho : o.op = .makeSlice t l c) {vl vc v' : Value} {w' : World} (hl : a.eval l = vl) (hc : a.eval c = vc) (hrun : (Instr.makeSlice t vl vc).run P w = .ok v' w') (h : wpList P ops Q rest (a.put o.dst v') w') : wpList P ops Q (o :: rest) a w := by
  refine wpList_value hg ?_ h
  unfold execOp
  simp only [ho, hl, hc, Sem.run_bind, Sem.run_pure, Result.andThen_ok, hrun]
end
/-- Cells set one behind the other. -/
def putL (cs : Array Value) (o : Nat) : List Value → Array Value
  | [] => cs
  | v :: l => putL (cs.setIfInBounds o v) (o + 1) l
theorem putL_size : ∀ (l : List Value) (cs : Array Value) (o : Nat), (putL cs o l).size = cs.size := by
  intro l
  induction l with
  | nil => intro cs o; rfl
  | cons v l ih => intro cs o; rw [putL, ih]; simp
theorem putL_list : ∀ (l A B C : List Value), B.length = l.length → putL (A ++ B ++ C).toArray A.length l = (A ++ l ++ C).toArray := by
  intro l
  induction l with
  | nil => intro A B C h; rw [List.length_eq_zero_iff.1 h]; simp [putL]
  | cons v l ih =>
    intro A B C h
    cases B with
    | nil => cases h
    | cons b B =>
      have h' : B.length = l.length := by simpa using h
      have := ih (A ++ [v]) B C h'
      rw [putL]
      have e : (A ++ (b :: B) ++ C).toArray.setIfInBounds A.length v = (A ++ [v] ++ B ++ C).toArray := by
        rw [List.setIfInBounds_toArray]
        congr 1
        simp
      rw [e]
      rw [List.length_append, List.length_singleton] at this
      rw [this]
      simp
/-- n rows of noughts. -/
def noughtL (z : List Value) (n : Nat) : List Value := (List.replicate n z).flatten
theorem noughtL_len (z : List Value) (n : Nat) : (noughtL z n).length = n * z.length := by simp [noughtL]
theorem noughtL_succ (z : List Value) (n : Nat) : noughtL z (n + 1) = z ++ noughtL z n := by simp [noughtL, List.replicate_succ]
theorem noughtL_get (z : List Value) : ∀ (n j : Nat), j < n * z.length → (noughtL z n)[j]? = z[j % z.length]? := by
  intro n
  induction n with
  | zero => intro j h; simp at h
  | succ n ih =>
    intro j h
    rw [noughtL_succ]
    by_cases hj : j < z.length
    · rw [List.getElem?_append_left hj, Nat.mod_eq_of_lt hj]
    · rw [List.getElem?_append_right (by omega), ih (j - z.length) (by rw [Nat.succ_mul] at h; omega)]
      congr 1
      rw [← Nat.mod_eq_sub_mod (by omega)]
theorem made_noughts (z : List Value) (hz : 0 < z.length) (n : Nat) : madeCells z.toArray (n * z.length) = (noughtL z n).toArray := by
  apply Array.ext
  · rw [size_madeCells, List.size_toArray, noughtL_len]
  · intro j h1 h2
    have hj : j < n * z.length := by rwa [size_madeCells] at h1
    have h3 := noughtL_get z n j hj
    rw [List.getElem?_eq_getElem (by rw [noughtL_len]; exact hj), List.getElem?_eq_getElem (Nat.mod_lt _ hz)] at h3
    injection h3 with h3
    have hm : j % z.length < z.length := Nat.mod_lt _ hz
    have h4 : (noughtL z n).toArray[j] = z[j % z.length] := by rw [← h3]; simp
    rw [h4]
    simp [madeCells, getElem!_def, hm]

/-! ### a reader and one block -/
structure RdS (R g t : Nat) (rest : Bs) (cs : Array Value) (w w' : World) : Prop where
  rd : RAt w' R (rest, 0)
  blk : Blk w' g t cs
  upd : Upd (RdF R g) w w'
theorem coder_keepR {R g bx : Nat} (h1 : bx ≠ R) (h2 : bx ≠ g) : ∀ w1 w2, Blk w1 bx 214 #[.pointer none, .pointer (some ⟨R, 0, none⟩)] → Upd (RdF R g) w1 w2 → w2.cell? ⟨bx, 0, none⟩ = some (.pointer none) ∧ w2.cell? ⟨bx, 1, none⟩ = some (.pointer (some ⟨R, 0, none⟩)) := fun w1 w2 hb hu => by
  have hb2 := hb.upd hu (fun e => by rcases e with e | e <;> omega)
  exact ⟨hb2.cell 0, hb2.cell 1⟩
theorem RdS.of {R g t : Nat} {rest : Bs} {cs : Array Value} {w w1 w' : World} {e : Ending} (hu : Upd (RdF R g) w w1) (h : RdP R g t rest cs w1 e w') : RdS R g t rest cs w w' := ⟨h.2.1, h.2.2.1, hu.same h.2.2.2⟩
theorem set_get {cs : Array Value} {o : Nat} {v v0 : Value} (h : cs[o]? = some v0) : (cs.setIfInBounds o v)[o]? = some v := by
  obtain ⟨h1, _⟩ := Array.getElem?_eq_some_iff.1 h
  simp [h1]
theorem set_far {cs : Array Value} {o p : Nat} {v : Value} (h : o ≠ p) : (cs.setIfInBounds o v)[p]? = cs[p]? := Array.getElem?_setIfInBounds_ne h

set_option maxRecDepth 100000 in
set_option maxHeartbeats 1000000 in
theorem ctext_r {R g t off : Nat} {s rest : Bs} {w : World} {cs : Array Value} (h : RAt w R (textB s ++ rest, 0)) (hs : s.length ≤ 32) (hl : (textB s ++ rest).length ≤ 1000000) (hb : Blk w g t cs) (ht : t ≠ 5) (hg : g ≠ R) {v0 : Value} (hc : cs[off]? = some v0) :
    Calls Tryz.prog 183 #[cR R, .pointer (some ⟨g, off, none⟩)] w (RdP R g t rest (cs.setIfInBounds off (strV s)) w) := by
  have hU0 := (Upd.refl Nowhere w).alloc (.cells #[.pointer none, .pointer (some ⟨R, 0, none⟩)] 214)
  have hR1 := h.upd hU0 id fun _ e => absurd e id
  have hb1 := hb.upd hU0 id
  have hnum := rtext_ok hR1 hl 32 (by omega)
  have hrd : textR 32 (textB s ++ rest, 0) = (s, (rest, 0)) := textR_text hs (by omega) rest
  rw [hrd] at hnum
  have HU0 := Lib.hid hU0
  have HB1 := Lib.hid hb1
  have HC := Lib.hid hc
  clear h hs hl hb hc hU0 hR1 hb1 hrd
  unfold cR
  go_enter Tryz.func183, Tryz.ntmps183
  go_wp2_with fail
  refine hnum.mono ?_
  clear hnum
  rintro e w2 ⟨rfl, hR2, hU2⟩
  have hb2 := HB1.out.upd hU2 hg
  have c2 := hb2.cell off
  rw [HC.out] at c2
  have f2 := hb2.frozen off
  have HB2 := Lib.hid hb2
  have HR2 := Lib.hid hR2
  have HU2 := Lib.hid hU2
  clear hb2 hR2 hU2
  go_wp2_with fail
  go_end0
  have hu3 := Upd.one w2 g off (strV s)
  refine ⟨rfl, HR2.out.upd hu3 (fun e => hg e.symm) (noU8_blk HB2.out ht), HB2.out.set_ off _, ?_⟩
  exact (HU0.out.any.same (HU2.out.mono fun k _ e => .inl e)).same (hu3.mono fun k _ e => .inr e)
set_option maxRecDepth 100000 in
set_option maxHeartbeats 1000000 in
theorem cflag_r {R g t off : Nat} {b : Bool} {rest : Bs} {w : World} {cs : Array Value} (h : RAt w R (flagB b ++ rest, 0)) (hl : (flagB b ++ rest).length ≤ 1000000) (hb : Blk w g t cs) (ht : t ≠ 5) (hg : g ≠ R) {v0 : Value} (hc : cs[off]? = some v0) :
    Calls Tryz.prog 240 #[cR R, .pointer (some ⟨g, off, none⟩)] w (RdP R g t rest (cs.setIfInBounds off (.bool b)) w) := by
  have hU0 := (Upd.refl Nowhere w).alloc (.cells #[.pointer none, .pointer (some ⟨R, 0, none⟩)] 214)
  have hR1 := h.upd hU0 id fun _ e => absurd e id
  have hb1 := hb.upd hU0 id
  have hnum := rflag_ok hR1 hl
  have hrd : flagR (flagB b ++ rest, 0) = (b, (rest, 0)) := flagR_flag b rest
  rw [hrd] at hnum
  have HU0 := Lib.hid hU0
  have HB1 := Lib.hid hb1
  have HC := Lib.hid hc
  clear h hl hb hc hU0 hR1 hb1 hrd
  unfold cR
  go_enter Tryz.func240, Tryz.ntmps240
  go_wp2_with fail
  refine hnum.mono ?_
  clear hnum
  rintro e w2 ⟨rfl, hR2, hU2⟩
  have hb2 := HB1.out.upd hU2 hg
  have c2 := hb2.cell off
  rw [HC.out] at c2
  have f2 := hb2.frozen off
  have HB2 := Lib.hid hb2
  have HR2 := Lib.hid hR2
  have HU2 := Lib.hid hU2
  clear hb2 hR2 hU2
  go_wp2_with fail
  go_end0
  have hu3 := Upd.one w2 g off (.bool b)
  refine ⟨rfl, HR2.out.upd hu3 (fun e => hg e.symm) (noU8_blk HB2.out ht), HB2.out.set_ off _, ?_⟩
  exact (HU0.out.any.same (HU2.out.mono fun k _ e => .inl e)).same (hu3.mono fun k _ e => .inr e)
/-- What a value's two cells become. -/
def valSet (cs : Array Value) (off : Nat) (b : Bool) (d : Bs) : Array Value := if b = true then (cs.setIfInBounds off (.bool true)).setIfInBounds (off + 1) (strV d) else cs.setIfInBounds off (.bool false)
set_option maxRecDepth 100000 in
set_option maxHeartbeats 2000000 in
theorem cval_r {R g t off : Nat} {b : Bool} {d rest : Bs} {w : World} {cs : Array Value} (h : RAt w R (valB b d ++ rest, 0)) (hd : d.length ≤ 32) (hl : (valB b d ++ rest).length ≤ 1000000) (hb : Blk w g t cs) (ht : t ≠ 5) (hg : g ≠ R) {v0 v1 : Value} (hc : cs[off]? = some v0) (hc1 : cs[off + 1]? = some v1) :
    Calls Tryz.prog 184 #[cR R, .pointer (some ⟨g, off, none⟩)] w (RdP R g t rest (valSet cs off b d) w) := by
  have hU0 := (Upd.refl Nowhere w).alloc (.cells #[.pointer none, .pointer (some ⟨R, 0, none⟩)] 214)
  have hB := Blk.new w 214 #[.pointer none, .pointer (some ⟨R, 0, none⟩)]
  have hR1 := h.upd hU0.drew id fun _ e => absurd e id
  have hb1 := hb.upd hU0.drew id
  have hbR : w.heap.size ≠ R := by have := h.lt; omega
  have hbg : w.heap.size ≠ g := by have := hb.lt; omega
  have hvb : valB b d ++ rest = flagB b ++ ((if b then textB d else []) ++ rest) := by unfold valB; rw [List.append_assoc]
  rw [hvb] at hR1 hl
  have hfl := cflag_r (off := off) hR1 hl hb1 ht hg hc
  have HFL := Lib.hid hfl
  have HK := Lib.hid (coder_keepR (g := g) hbR hbg)
  have HU0 := Lib.hid hU0
  have HB := Lib.hid hB
  have HC := Lib.hid hc
  have HC1 := Lib.hid hc1
  have HL := Lib.hid hl
  have b0 := hB.cell 0
  have b1 := hB.cell 1
  simp only [List.getElem?_toArray, List.getElem?_cons_zero, List.getElem?_cons_succ] at b0 b1
  clear h hl hb hc hc1 hU0 hR1 hb1 hvb hfl hB
  unfold cR at *
  go_enter Tryz.func184, Tryz.ntmps184
  go_wp2_with fail
  generalize w.alloc (.cells #[.pointer none, .pointer (some ⟨R, 0, none⟩)] 214) = w1 at *
  generalize w.heap.size = bx at *
  go_cut [8] (fun _ wz => RdS R g t ((if b then textB d else []) ++ rest) (cs.setIfInBounds off (.bool b)) w1 wz)
  case first =>
    go_region_held3 (fun w' => w'.cell? ⟨bx, 0, none⟩ = some (.pointer none) ∧ w'.cell? ⟨bx, 1, none⟩ = some (.pointer (some ⟨R, 0, none⟩))) (first | exact ⟨b0, b1⟩ | exact k2)
      (first
        | (go_at_call 240
           refine HFL.out.mono ?_
           rintro e w2 ⟨rfl, hR2, hB2, hU⟩
           have k2 := HK.out _ _ HB.out.drew hU
           have HS2 : Hid (RdS R g t ((if b then textB d else []) ++ rest) (cs.setIfInBounds off (.bool b)) w1 w2) := Lib.hid ⟨hR2, hB2, ⟨hU.os, hU.tape, hU.output, hU.size, hU.block⟩⟩
           clear hR2 hB2 hU))
    all_goals
      go_wp2_with fail
      go_meet
      exact HS2.out
  case rest =>
    obtain ⟨hR2, hb2, hU2⟩ := hcut
    have hB2 := HB.out.upd hU2 (fun e => by rcases e with e | e <;> omega)
    have b0 := hB2.cell 0
    have b1 := hB2.cell 1
    have g0 := hb2.cell off
    rw [set_get HC.out] at g0
    simp only [List.getElem?_toArray, List.getElem?_cons_zero, List.getElem?_cons_succ] at b0 b1
    cases b with
    | false =>
      have HR2 := Lib.hid hR2
      have HB2 := Lib.hid hb2
      have HU2 := Lib.hid hU2
      clear hR2 hb2 hU2 hB2 HFL
      go_wp2_with fail
      refine ret_none rfl rfl ?_
      exact ⟨rfl, HR2.out, HB2.out, HU0.out.any.same HU2.out⟩
    | true =>
      have htx := ctext_r (off := off + 1) (hR2.upd (Upd.refl Nowhere _).drew id fun _ e => absurd e id) hd (by have := HL.out; simp only [if_true, List.length_append] at this ⊢; omega) (hb2.upd (Upd.refl Nowhere _).drew id) ht hg (by rw [set_far (by omega)]; exact HC1.out)
      have HT := Lib.hid htx
      have HB2 := Lib.hid hB2
      have HU2 := Lib.hid hU2
      clear hR2 hb2 hU2 hB2 htx HFL
      unfold cR at HT
      go_wp2_with fail
      go_region_held3 (fun w' => w'.cell? ⟨bx, 0, none⟩ = some (.pointer none) ∧ w'.cell? ⟨bx, 1, none⟩ = some (.pointer (some ⟨R, 0, none⟩))) (first | exact ⟨b0, b1⟩ | exact k2)
        (first
          | (go_at_call 183
             refine HT.out.mono ?_
             rintro e w3 ⟨rfl, hR3, hB3, hU⟩
             have k2 := HK.out _ _ HB2.out.drew hU
             have HR3 := Lib.hid hR3
             have HB3 := Lib.hid hB3
             have HU3 := Lib.hid hU
             clear hR3 hB3 hU))
      all_goals
        go_wp2_with fail
        refine ret_none rfl rfl ?_
        exact ⟨rfl, HR3.out, HB3.out, HU0.out.any.same (HU2.out.same ⟨HU3.out.os, HU3.out.tape, HU3.out.output, HU3.out.size, HU3.out.block⟩)⟩
end Go.Proofs.YtdfccegeihfdpaaGreatDoor
