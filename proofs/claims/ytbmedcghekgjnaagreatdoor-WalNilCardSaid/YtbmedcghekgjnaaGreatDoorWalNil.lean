/-
  WalNil returns true for every record and every number.
-/
import Derived.Test.YtbmedcghekgjnaaGreatDoorWalRa
import Derived.Test.YtbmedcghekgjnaaGreatDoorAwake09
import Derived.Test.YtbmedcghekgjnaaGreatDoorSeatC
import Derived.Test.YtbmedcghekgjnaaGreatDoorWalGreat
namespace Go.Proofs.YtbmedcghekgjnaaGreatDoor
open Go Ev Go.RowKit

theorem x09_ok {l : List Value} (h : l.all symB = true) : ExtOK Tryz.prog T0 (envOf l) 4 X09 := known_true (fun _ => ext0) awake09_run h ext0
theorem wal_runs (a b : Bool) : walRun a b = true := by
  cases a <;> cases b
  · exact wal_run_ff
  · exact wal_run_ft
  · exact wal_run_tf
  · exact wal_run_tt
/-- Names: the table, the package's variables, and a block of one's own. -/
noncomputable def renW (ty : TypeId) (fz : Nat × Nat) (g : Nat) : Ren := fun id => if id = 4 then some ⟨g, 0, 0⟩ else ren0 ty fz id
theorem renW_fixed (ty : TypeId) (fz : Nat × Nat) (g : Nat) : Fixed (renW ty fz g) 4 := fun k hk => by
  obtain ⟨s, h⟩ := ren0_fixed ty fz k hk
  exact ⟨s, by unfold renW; rw [if_neg (by omega), h]⟩
theorem renW_fresh (ty : TypeId) (fz : Nat × Nat) (g : Nat) : Fresh (renW ty fz g) 5 := fun id h => by
  unfold renW
  rw [if_neg (by omega), ren0_fresh ty fz id (by omega)]
theorem matchW {env : Nat → Value} {w : World} {ty : TypeId} {fz : Nat × Nat} {g : Nat} {cs cs' : List Value} {t : TypeId} (hg : 0 < g) (h : w.heap[0]? = some (.cells ⟨halfL⟩ ty fz)) (hb : Blk w g t ⟨cs'⟩) (hv : VRs (renW ty fz g) env cs cs') :
    Match T0 env (renW ty fz g) ⟨baseH ((4, .cells cs t false) :: base0) .leaf, 5, []⟩ w := by
  have key : ∀ id o, (baseH ((4, .cells cs t false) :: base0) .leaf).find id = some o → (id = 4 ∧ o = .cells cs t false) ∨ (id = 0 ∧ o = .fixed halfL) := by
    intro id o hf
    rcases baseH_find ((4, .cells cs t false) :: base0) .leaf id o hf with h | h
    · simpa [base0] using h
    · rw [leaf_find] at h; cases h
  have e4 : renW ty fz g 4 = some ⟨g, 0, 0⟩ := if_pos rfl
  have e0 : renW ty fz g 0 = some ⟨0, 0, tagN ty fz⟩ := rfl
  refine ⟨fun id o hf => ?_, fun id id' o o' l l' hf hf' _ _ e e' hbk => ?_, fun z o m hf hd => ?_, fun id o hf => ?_⟩
  · rcases key id o hf with ⟨rfl, rfl⟩ | ⟨rfl, rfl⟩
    · exact ⟨_, e4, [], cs', [], (0, 0), by simpa using (show w.heap[g]? = some (.cells ⟨cs'⟩ t (0, 0)) from hb), rfl, hv, .inl rfl, fun h => by cases h⟩
    · exact ⟨_, e0, [], halfL, [], ty, fz, by simpa using h, rfl, closeds_refl closed_half, rfl, rfl⟩
  · rcases key id o hf with ⟨rfl, rfl⟩ | ⟨rfl, rfl⟩ <;> rcases key id' o' hf' with ⟨rfl, rfl⟩ | ⟨rfl, rfl⟩
    · rfl
    · rw [e4] at e; rw [e0] at e'
      simp only [Option.some.injEq] at e e'
      rw [← e, ← e'] at hbk
      simp only at hbk
      omega
    · rw [e0] at e; rw [e4] at e'
      simp only [Option.some.injEq] at e e'
      rw [← e, ← e'] at hbk
      simp only at hbk
      omega
    · rfl
  · rcases key z o hf with ⟨rfl, rfl⟩ | ⟨rfl, rfl⟩ <;> cases hd
  · rcases key id o hf with ⟨rfl, rfl⟩ | ⟨rfl, rfl⟩ <;> (unfold idMost; omega)
theorem belowW {env : Nat → Value} {w w' : World} {ty : TypeId} {fz : Nat × Nat} {g B : Nat} {cs cs' : List Value} {t : TypeId} (hg : 0 < g) (hB : B ≤ g) (hBw : B ≤ w.heap.size) (h : w.heap[0]? = some (.cells ⟨halfL⟩ ty fz)) (hb : Blk w g t ⟨cs'⟩) (hv : VRs (renW ty fz g) env cs cs') {ρ' : Ren} {H' : HS}
    (hP : Post T0 env (renW ty fz g) ⟨baseH ((4, .cells cs t false) :: base0) .leaf, 5, []⟩ w ρ' H' w') (hb' : baseOk H' base0 = true) : Below B w w' := by
  refine below_of_post hP hBw ?_
  rintro k hk ⟨id, o, lc, h1, h2, h3, rfl⟩
  have h4 : (id = 4 ∧ o = .cells cs t false) ∨ (id = 0 ∧ o = .fixed halfL) := by
    rcases baseH_find ((4, .cells cs t false) :: base0) .leaf id o h1 with h | h
    · simpa [base0] using h
    · rw [leaf_find] at h; cases h
  rcases h4 with ⟨rfl, rfl⟩ | ⟨rfl, rfl⟩
  · have e4 : renW ty fz g 4 = some ⟨g, 0, 0⟩ := if_pos rfl
    rw [e4] at h3
    simp only [Option.some.injEq] at h3
    rw [← h3] at hk
    simp only at hk
    omega
  · have e0 : renW ty fz g 0 = some ⟨0, 0, tagN ty fz⟩ := rfl
    rw [e0] at h3
    obtain rfl : ({ blk := 0, base := 0, spare := tagN ty fz } : Ev.Loc) = lc := by simpa using h3
    exact fixed_same (matchW hg h hb hv) hP closed_half h1 (baseOk_mem hb' 0 _ (List.mem_singleton.2 rfl)) e0 rfl

set_option maxRecDepth 100000
set_option maxHeartbeats 4000000 in
theorem walNil_walk (k0 k1 k2 k3 co : Int) (key od nd : ByteArray) (oh nh : Bool) (Am : Option Addr) (nm cm : Nat) (Al : Option Addr) (nl cl : Nat) (Ar : Option Addr) (nr cr : Nat) (Ad : Option Addr) (nd' cd : Nat) (Ae : Option Addr) (ne ce : Nat) (Ap : Option Addr) (np cp : Nat) (n : Int) (w : World) (hw : HalfAt w)
    (hl : ListAt w 2 lockE Al nl) (hr : ListAt w 8 rowE Ar nr) (he : ListAt w 2 deedE Ae ne) :
    Calls Tryz.prog 3 #[.agg #[.int .i64 k0, .int .i64 k1, .int .i64 k2, .int .i64 k3, .string key, .bool oh, .string od, .bool nh, .string nd, .int .i64 co, .slice Am nm cm, .slice Al nl cl, .slice Ar nr cr, .slice Ad nd' cd, .slice Ae ne ce, .slice Ap np cp], .int .i64 n] w
      fun e w' => e = .returned (.bool true) ∧ Below w.heap.size w w' := by
  have HL := Lib.hid hl
  have HR := Lib.hid hr
  have HE := Lib.hid he
  have HW := Lib.hid hw
  clear hl hr he hw
  refine calls_of_fin Tryz.func3 rfl ?_
  simp only [Tryz.ntmps3, List.size_toArray, List.length_cons, List.length_nil, Nat.reduceAdd, Nat.reduceSub, Array.replicate_succ,
     Array.replicate_zero, List.push_toArray, List.append_toArray, List.nil_append, List.cons_append]
  go_upto_region 1 with (fail)
  have hb := Blk.new w 30 #[.int .i64 k0, .int .i64 k1, .int .i64 k2, .int .i64 k3, .string key, .bool oh, .string od, .bool nh, .string nd, .int .i64 co, .slice Am nm cm, .slice Al nl cl, .slice Ar nr cr, .slice Ad nd' cd, .slice Ae ne ce, .slice Ap np cp]
  have hu : Upd Nowhere w (w.alloc (.cells #[.int .i64 k0, .int .i64 k1, .int .i64 k2, .int .i64 k3, .string key, .bool oh, .string od, .bool nh, .string nd, .int .i64 co, .slice Am nm cm, .slice Al nl cl, .slice Ar nr cr, .slice Ad nd' cd, .slice Ae ne ce, .slice Ap np cp] 30)) := (Upd.refl _ _).alloc _
  have hpos : 0 < w.heap.size := by obtain ⟨ty, fz, hh⟩ := HW.out; exact lt_of_heap hh
  generalize w.alloc (.cells #[.int .i64 k0, .int .i64 k1, .int .i64 k2, .int .i64 k3, .string key, .bool oh, .string od, .bool nh, .string nd, .int .i64 co, .slice Am nm cm, .slice Al nl cl, .slice Ar nr cr, .slice Ad nd' cd, .slice Ae ne ce, .slice Ap np cp] 30) = w1 at hb hu ⊢
  obtain ⟨g, hg⟩ : ∃ g, g = w.heap.size := ⟨_, rfl⟩
  rw [← hg] at hb ⊢
  have HG := Lib.hid hg
  have HP := Lib.hid hpos
  have HU := Lib.hid hu
  have HL := Lib.hid (HL.out.upd hu)
  have HR := Lib.hid (HR.out.upd hu)
  have HE := Lib.hid (HE.out.upd hu)
  have HBk := Lib.hid hb
  have cb := hb.cell
  clear hb hu hg hpos
  go_upto_if 19 with (fail)
  refine (great_ok k0 k1 k2 k3 co key od nd oh nh Am nm cm Al nl cl Ar nr cr Ad nd' cd Ae ne ce Ap np cp w1 HL.out HR.out HE.out).mono ?_
  rintro e w2 ⟨⟨bb, rfl⟩, hu2⟩
  have HU2 := Lib.hid hu2
  have HB2 := Lib.hid (HBk.out.upd hu2 id)
  clear hu2 cb
  go_upto_if 19 with (fail)
  cases bb with
  | true =>
    refine wp_cond_split rfl (fun h => ?_) (fun h => ?_) <;> go_prune
    have hH2 : HalfAt w2 := by
      obtain ⟨ty, fz, hh⟩ := HW.out
      exact ⟨ty, fz, ((HU2.out.block 0 (Nat.lt_of_lt_of_le HP.out HU.out.size) id).trans (HU.out.block 0 HP.out id)).trans hh⟩
    go_wp2_with fail
    refine (awake09_ok hH2).mono ?_
    rintro e w3 ⟨rfl, hb3⟩
    have HB3 := Lib.hid hb3
    clear hb3
    go_wp2
    refine fin_of_plain (.inr rfl) rfl (results_tmp rfl _ _ _) ⟨rfl, ?_⟩
    exact (Upd.toBelow (HU.out.trans HU2.out fun _ _ h => h.elim) fun _ _ h => h.elim).trans (HB3.out.mono (Nat.le_trans HU.out.size HU2.out.size))
  | false =>
    refine wp_cond_split rfl (fun h => ?_) (fun h => ?_) <;> go_prune
    go_step
    go_step
    go_step
    obtain ⟨ty, fz, hh0⟩ := HW.out
    have hh : w2.heap[0]? = some (.cells ⟨halfL⟩ ty fz) := ((HU2.out.block 0 (Nat.lt_of_lt_of_le HP.out HU.out.size) id).trans (HU.out.block 0 HP.out id)).trans hh0
    have hsy : [Value.int .i64 k0, .int .i64 k1, .int .i64 k2, .int .i64 k3, .string key, .int .i64 0, .string od, .int .i64 0, .string nd, .int .i64 co, .slice Am nm cm, .slice Al nl cl, .slice Ar nr cr, .slice Ad nd' cd, .slice Ae ne ce, .slice Ap np cp, .int .i64 n].all symB = true := rfl
    have hg := HG.out
    have hrec : ∀ ρ, VRs ρ (envOf [Value.int .i64 k0, .int .i64 k1, .int .i64 k2, .int .i64 k3, .string key, .int .i64 0, .string od, .int .i64 0, .string nd, .int .i64 co, .slice Am nm cm, .slice Al nl cl, .slice Ar nr cr, .slice Ad nd' cd, .slice Ae ne ce, .slice Ap np cp, .int .i64 n]) (recCells oh nh)
        [.int .i64 k0, .int .i64 k1, .int .i64 k2, .int .i64 k3, .string key, .bool oh, .string od, .bool nh, .string nd, .int .i64 co, .slice Am nm cm, .slice Al nl cl, .slice Ar nr cr, .slice Ad nd' cd, .slice Ae ne ce, .slice Ap np cp] := fun ρ =>
      .cons (.sym 0) (.cons (.sym 1) (.cons (.sym 2) (.cons (.sym 3) (.cons (.sym 4) (.cons (.bool _) (.cons (.sym 6) (.cons (.bool _) (.cons (.sym 8) (.cons (.sym 9) (.cons (.sym 10) (.cons (.sym 11) (.cons (.sym 12) (.cons (.sym 13) (.cons (.sym 14) (.cons (.sym 15) .nil)))))))))))))))
    have hpg : 0 < g := by rw [hg]; exact HP.out
    have hsz : w.heap.size ≤ w2.heap.size := Nat.le_trans HU.out.size HU2.out.size
    refine wp_rest (cx0 hsy) (calls0 hsy (x09_ok hsy) 1000 100) (draw_ok mix0 (cx0 hsy) (calls0 hsy (x09_ok hsy) 1000 100)) (s := ⟨TT.ofList 0 (walFrame oh nh) .leaf, [], ⟨baseH (walH oh nh) .leaf, 5, []⟩⟩) (ρ := renW ty fz g) (ok := okTrue) (fuel := 1000) (by kernel_rfl) (wal_runs oh nh) ?_ ?_
    · refine ⟨⟨?_, renW_fixed ty fz g, matchW hpg hh HB2.out (hrec _)⟩, rfl, renW_fresh ty fz g, .nil, Nat.le_refl _⟩
      refine frame_ok ?_ (by kernel_rfl)
      unfold walFrame
      refine .cons (.agg (hrec _)) (.cons (.sym 16) (.cons (.ptr (l := ⟨g, 0, 0⟩) rfl) ?_))
      repeat (refine VRs.cons (by first | exact VR.bool _ | exact VR.agg (hrec _) | exact VR.tuple VRs.nil) ?_)
      exact VRs.nil
    · intro v' w' p ρ' hok hv hP
      unfold okTrue at hok
      split at hok
      · rename_i hb'
        rw [hb'] at hv
        cases hv
        exact ⟨rfl, (Upd.toBelow (HU.out.trans HU2.out fun _ _ h => h.elim) fun _ _ h => h.elim).trans (belowW hpg (by omega) hsz hh HB2.out (hrec _) hP hok)⟩
      · cases hok
end Go.Proofs.YtbmedcghekgjnaaGreatDoor
