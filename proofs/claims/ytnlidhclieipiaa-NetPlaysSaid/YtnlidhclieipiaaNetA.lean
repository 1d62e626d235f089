/-
  Contracts of the small functions of layer 20: Clone, own, Copy, Same of bytes and of parcels, New, Len, Lost.
-/
import Derived.Test.YtnlidhclieipiaaRows
import Derived.Test.YtnlidhclieipiaaComm
import Derived.Test.YtnlidhclieipiaaLib
namespace Go.Proofs.Ytnlidhclieipiaa
open Go Go.RowKit

theorem info_byte : (Try.prog.info? 5).map (fun i => (i.zero, i.size, i.bytes)) = some (some (.int .u8 0), 1, 1) := by kernel_rfl

/-- append onto a new, empty slice of bytes: whatever source. -/
theorem run_append_bytes (w : World) (v : Value) (n : Nat) (xs : List Value) (h : Reads w 1 v n xs) (h1 : ∀ u ∈ xs, u.oneCell' = true) (hn : n ≤ 140737488355328) :
    ∃ v' w', (Builtin.append_ #[26, 26] 26 #[.slice (some ⟨w.heap.size, 0, none⟩) 0 0, v]).run Try.prog (w.alloc (.cells #[] 5)) = .ok v' w' ∧
      w'.ownsRow w.heap.size 5 1 v' n xs ∧ Upd Nowhere w w' := by
  obtain ⟨i, hi, hz, hs, hb⟩ := info_parts info_byte
  have hown : (w.alloc (.cells #[] 5)).ownsRow w.heap.size 5 1 (.slice (some ⟨w.heap.size, 0, none⟩) 0 0) 0 [] := World.ownsRow_lit w #[] 0 (Nat.le_refl _) (by simp [maxLen]) rfl
  obtain ⟨A, c, rfl, hc, hl, hr⟩ := h.alloc (.cells #[] 5)
  have hm : n ≤ maxLen := by simp only [maxLen]; omega
  rcases A with _ | ad
  · have h0 : n = 0 := by
      rcases Nat.eq_zero_or_pos n with h0 | h0
      · exact h0
      · obtain ⟨ad, h, _⟩ := hr h0
        cases h
    subst h0
    have hx : xs = [] := List.eq_nil_of_length_eq_zero (by simpa using hl)
    subst hx
    refine ⟨.slice (some ⟨w.heap.size, 0, none⟩) 0 0, w.alloc (.cells #[] 5), ?_, hown, (Upd.refl _ _).alloc _⟩
    simp [Builtin.append_, run_underlying Try.underlying26, sizeOf, typeInfo, hi, Builtin.lenOf, Builtin.firstCells, storeCells]
  · have hcells : ∀ j u, xs[j]? = some u → (w.alloc (.cells #[] 5)).cell? (ad.add j) = some u := by
      intro j u hj
      obtain ⟨hj', _⟩ := List.getElem?_eq_some_iff.1 hj
      obtain ⟨ad', e, _, _, h⟩ := hr (by omega)
      injection e with e
      subst e
      exact h j u hj
    obtain ⟨v', w', hrun, ho, hg, _, _⟩ := run_append_own_at (P := Try.prog) (w.alloc (.cells #[] 5)) w.heap.size 26 26 5 i (.int .u8 0) 1 1 Try.underlying26 hi hz hs hb rfl (by omega) _ 0 [] hown ad n c xs hl hcells h1
      (by simpa using hm) (by simpa using hn) (by simp)
    refine ⟨v', w', hrun, by simpa using ho, ((Upd.refl _ _).alloc _).grown hg fun k hk hlt => ?_⟩
    simp [Value.ownBlock] at hk
    omega

set_option maxHeartbeats 400000 in
/-- slices.Clone of bytes. -/
theorem clone_bytes (v : Value) (n : Nat) (xs : List Value) (w : World) (h : Reads w 1 v n xs) (h1 : ∀ u ∈ xs, u.oneCell' = true) (hn : n ≤ 140737488355328) :
    Calls Try.prog 33 #[v] w fun e w' => ∃ v', e = .returned v' ∧ w'.ownsRow w.heap.size 5 1 v' n xs ∧ Upd Nowhere w w' := by
  obtain ⟨v', w', hrun, ho, hu⟩ := run_append_bytes w v n xs h h1 hn
  obtain ⟨A, c, rfl, hc, hl, hr⟩ := h
  have he := fun wx => Lib.run_eql_slice_nil (P := Try.prog) wx 26 5 A n c 0 0 Try.underlying26
  rcases A with _ | ad
  · have h0 : n = 0 := by
      rcases Nat.eq_zero_or_pos n with h0 | h0
      · exact h0
      · obtain ⟨ad, h, _⟩ := hr h0
        cases h
    have hx : xs = [] := List.eq_nil_of_length_eq_zero (by rw [hl, h0])
    have H0 := Lib.hid h0
    have HX := Lib.hid hx
    clear hrun ho hu hr h0 hx
    go_enter Try.func33, Try.ntmps33
    go_wp2
    go_ret
    exact ⟨_, rfl, by rw [H0.out, HX.out]; exact World.ownsRow_nil _ _ _ _, Upd.refl _ _⟩
  · clear hr hl
    go_enter Try.func33, Try.ntmps33
    go_wp2_with (at_builtin; refine wpList_append_run rfl _ _ _ rfl rfl rfl hrun ?_)
    go_ret
    exact ⟨_, rfl, ho, hu⟩

set_option maxHeartbeats 400000 in
/-- net.own. -/
theorem own_ok (f t : Int) (s : Bool) (v : Value) (n : Nat) (xs : List Value) (w : World) (h : Reads w 1 v n xs) (h1 : ∀ u ∈ xs, u.oneCell' = true) (hn : n ≤ 140737488355328) :
    Calls Try.prog 26 #[.agg #[.int .i64 f, .int .i64 t, v, .bool s]] w fun e w' =>
      ∃ v', e = .returned (.agg #[.int .i64 f, .int .i64 t, v', .bool s]) ∧ w'.ownsRow w.heap.size 5 1 v' n xs ∧ Upd Nowhere w w' := by
  have h' := h
  obtain ⟨A, c, rfl, hc, hl, hr⟩ := h'
  clear hr hl
  have H := Lib.hid h
  clear h
  go_enter Try.func26, Try.ntmps26
  go_wp2_with fail
  refine (clone_bytes _ n xs _ ((H.out.alloc _).alloc _) h1 hn).mono ?_
  rintro e w1 ⟨v', rfl, ho, hu⟩
  obtain ⟨A', c', hv⟩ := own_form ho
  subst hv
  have b0 := ((Blk.new w 28 #[.int .i64 f, .int .i64 t, .slice A n c, .bool s]).alloc (.cells #[.int .i64 0, .int .i64 0, .slice none 0 0, .bool false] 28)).upd hu id
  have b1 := (Blk.new' (g := w.heap.size + 1) (w.alloc (.cells #[.int .i64 f, .int .i64 t, .slice A n c, .bool s] 28)) 28 #[.int .i64 0, .int .i64 0, .slice none 0 0, .bool false] (by simp)).upd hu id
  have c0 := b0.cell
  have f0 := b0.frozen
  have c1 := b1.cell
  have f1 := b1.frozen
  go_wp2
  have hU : Upd (fun k => k = w.heap.size ∨ k = w.heap.size + 1) w1 (((((w1.setCell ⟨w.heap.size, 2, none⟩ (.slice A' n c')).setCell ⟨w.heap.size + 1, 0, none⟩ (.int .i64 f)).setCell ⟨w.heap.size + 1, 1, none⟩ (.int .i64 t)).setCell
      ⟨w.heap.size + 1, 2, none⟩ (.slice A' n c')).setCell ⟨w.heap.size + 1, 3, none⟩ (.bool s)) :=
    (((((Upd.refl _ w1).setCell (by simp) _).setCell (by simp) _).setCell (by simp) _).setCell (by simp) _).setCell (by simp) _
  refine bodyPost_ret (v := .agg #[.int .i64 f, .int .i64 t, .slice A' n c', .bool s]) (by simp [results, Try.results26, go_sem, c1]) rfl ⟨_, rfl, ?_, ?_⟩
  · refine own_upd (own_base ho _ fun k hk => ?_) hU fun k hk => ?_
    · have := (ho.lt k hk).1; simp at this; omega
    · have := (ho.lt k hk).1; simp at this; omega
  · refine ((((Upd.refl _ w).alloc _).alloc _).trans hu (fun _ _ => id)).trans hU ?_
    intro k hk hF
    omega

set_option maxHeartbeats 400000 in
/-- trothref20.Copy. -/
theorem copy_ok (f t : Int) (s : Bool) (v : Value) (n : Nat) (xs : List Value) (w : World) (h : Reads w 1 v n xs) (h1 : ∀ u ∈ xs, u.oneCell' = true) (hn : n ≤ 140737488355328) :
    Calls Try.prog 11 #[.agg #[.int .i64 f, .int .i64 t, v, .bool s]] w fun e w' =>
      ∃ v', e = .returned (.agg #[.int .i64 f, .int .i64 t, v', .bool s]) ∧ w'.ownsRow w.heap.size 5 1 v' n xs ∧ Upd Nowhere w w' := by
  have h' := h
  obtain ⟨A, c, rfl, hc, hl, hr⟩ := h'
  clear hr hl
  obtain ⟨v', w1, hrun, ho, hu⟩ := run_append_bytes _ _ n xs ((h.alloc (.cells #[.int .i64 f, .int .i64 t, .slice A n c, .bool s] 28)).alloc (.cells #[.int .i64 0, .int .i64 0, .slice none 0 0, .bool false] 28)) h1 hn
  have e2 : ((w.alloc (.cells #[.int .i64 f, .int .i64 t, .slice A n c, .bool s] 28)).alloc (.cells #[.int .i64 0, .int .i64 0, .slice none 0 0, .bool false] 28)).heap.size = w.heap.size + 2 := by simp
  rw [e2] at hrun ho
  obtain ⟨A', c', hv⟩ := own_form ho
  subst hv
  have b0 := ((Blk.new w 28 #[.int .i64 f, .int .i64 t, .slice A n c, .bool s]).alloc (.cells #[.int .i64 0, .int .i64 0, .slice none 0 0, .bool false] 28)).upd hu id
  have b1 := (Blk.new' (g := w.heap.size + 1) (w.alloc (.cells #[.int .i64 f, .int .i64 t, .slice A n c, .bool s] 28)) 28 #[.int .i64 0, .int .i64 0, .slice none 0 0, .bool false] (by simp)).upd hu id
  have c0 := b0.cell
  have f0 := b0.frozen
  have c1 := b1.cell
  have f1 := b1.frozen
  have H := Lib.hid h
  clear h e2
  go_enter Try.func11, Try.ntmps11
  go_wp2_with (at_builtin; refine wpList_append_run rfl _ _ _ rfl rfl rfl hrun ?_)
  have hU : Upd (fun k => k = w.heap.size ∨ k = w.heap.size + 1) w1 (((((w1.setCell ⟨w.heap.size, 2, none⟩ (.slice A' n c')).setCell ⟨w.heap.size + 1, 0, none⟩ (.int .i64 f)).setCell ⟨w.heap.size + 1, 1, none⟩ (.int .i64 t)).setCell
      ⟨w.heap.size + 1, 2, none⟩ (.slice A' n c')).setCell ⟨w.heap.size + 1, 3, none⟩ (.bool s)) :=
    (((((Upd.refl _ w1).setCell (by simp) _).setCell (by simp) _).setCell (by simp) _).setCell (by simp) _).setCell (by simp) _
  refine bodyPost_ret (v := .agg #[.int .i64 f, .int .i64 t, .slice A' n c', .bool s]) (by simp [results, Try.results11, go_sem, c1]) rfl ⟨_, rfl, ?_, ?_⟩
  · refine own_upd (own_base ho _ fun k hk => ?_) hU fun k hk => ?_
    · have := (ho.lt k hk).1; omega
    · have := (ho.lt k hk).1; omega
  · refine ((((Upd.refl _ w).alloc _).alloc _).trans hu (fun _ _ => id)).trans hU ?_
    intro k hk hF
    omega

theorem bytes_chan : ∃ i, Try.prog.info? 28 = some i ∧ i.bytes = 48 := by
  have h : (Try.prog.info? 28).map (·.bytes) = some 48 := by kernel_rfl
  obtain ⟨i, hi, hb⟩ := Option.map_eq_some_iff.1 h
  exact ⟨i, hi, hb⟩
theorem run_make256 (w : World) : (Instr.makeChan 54 (.int .i64 256)).run Try.prog w = .ok (.chan (some w.heap.size)) (w.alloc (.chan 256 #[] false 0 0 false)) := by
  obtain ⟨i, hi, hb⟩ := bytes_chan
  simpa using Conc.run_makeChan (P := Try.prog) (w := w) Try.underlying54 hi .i64 256 (by omega) (by rw [hb]; omega)

set_option maxHeartbeats 400000 in
/-- net.New. -/
theorem new_ok (w : World) : Calls Try.prog 9 #[] w fun e w' => e = .returned (.pointer (some ⟨w.heap.size + 1, 0, none⟩)) ∧
      w' = (w.alloc (.chan 256 #[] false 0 0 false)).alloc (.cells #[.chan (some w.heap.size), .int .i64 0] 56) := by
  have hm := run_make256
  go_enter Try.func9, Try.ntmps9
  go_wp2
  go_ret
  exact ⟨rfl, rfl⟩

set_option maxHeartbeats 400000 in
theorem lost_ok (b c : Nat) (n : Int) (w : World) (h : Blk w b 56 #[.chan (some c), .int .i64 n]) :
    Calls Try.prog 15 #[.pointer (some ⟨b, 0, none⟩)] w fun e w' => e = .returned (.int .i64 n) ∧ w = w' := by
  have hc := h.cell
  go_enter Try.func15, Try.ntmps15
  go_wp2
  go_ret
  exact ⟨rfl, rfl⟩
set_option maxHeartbeats 400000 in
theorem lost_nil (w : World) : Calls Try.prog 15 #[.pointer none] w fun e w' => e = .returned (.int .i64 0) ∧ w = w' := by
  go_enter Try.func15, Try.ntmps15
  go_wp2
  go_ret
  exact ⟨rfl, rfl⟩

theorem run_len_chan (w : World) (c cap s r : Nat) (buf : Array Value) (cl : Bool) (hch : w.heap[c]? = some (.chan cap buf cl s r false)) :
    (Builtin.len_ #[54] 3 #[.chan (some c)]).run Try.prog w = .ok (.int .i64 buf.size) w := by
  simp [Builtin.len_, run_underlying Try.underlying54, getObj, Sem.run, hch, goInt]

set_option maxHeartbeats 400000 in
theorem len_ok (b c cap s r : Nat) (buf : Array Value) (cl : Bool) (n : Int) (w : World) (h : Blk w b 56 #[.chan (some c), .int .i64 n]) (hch : w.heap[c]? = some (.chan cap buf cl s r false)) :
    Calls Try.prog 14 #[.pointer (some ⟨b, 0, none⟩)] w fun e w' => e = .returned (.int .i64 buf.size) ∧ w = w' := by
  have hc := h.cell
  have hlen := run_len_chan w c cap s r buf cl hch
  go_enter Try.func14, Try.ntmps14
  go_wp2
  go_ret
  exact ⟨rfl, rfl⟩
set_option maxHeartbeats 400000 in
theorem len_nil (w : World) : Calls Try.prog 14 #[.pointer none] w fun e w' => e = .returned (.int .i64 0) ∧ w = w' := by
  go_enter Try.func14, Try.ntmps14
  go_wp2
  go_ret
  exact ⟨rfl, rfl⟩
end Go.Proofs.Ytnlidhclieipiaa
