/-
  The walk of NetPlays.
-/
import Derived.Test.YtnlidhclieipiaaPlayB
import Derived.Test.YtnlidhclieipiaaOpenP
import Derived.Deep.RegionHeld3
namespace Go.Proofs.Ytnlidhclieipiaa
open Go Go.RowKit

/-- A call, as data: its parcel's body lies at v. -/
structure CallD where
  kind : Int
  i : Int
  at_ : Int
  mask : UInt8
  p : Pcl
  v : Value

def CallD.cells (x : CallD) : List Value := [.int .i64 x.kind, .int .i64 x.i, .int .i64 x.at_, .int .u8 x.mask.toNat, .int .i64 x.p.frm, .int .i64 x.p.dst, x.v, .bool x.p.spoilt]
def CallAt (W : World) (cs : List Value) (x : CallD) : Prop := cs = x.cells ∧ Reads W 1 x.v x.p.body.length (bytesV x.p.body) ∧ x.p.body.length ≤ maxLen

def PlayRel (w : World) (bn c bm k : Nat) (wr : World) : Prop := ∃ vL L M lost, Play w bn c bm vL L M lost wr ∧ 0 ≤ lost ∧ lost ≤ k

theorem rows_at' {α : Type} {W : World} {size : Nat} {E : List Value → α → Prop} {A : Option Addr} {n c : Nat} {L : List α} (h : RowsAt W size E (.slice A n c) L) {k : Nat} (hk : k < L.length) :
    n = L.length ∧ ∃ b off x cs, A = some ⟨b, off, none⟩ ∧ b < W.heap.size ∧ L[k]? = some x ∧ cs.length = size ∧ E cs x ∧ ∀ j u, cs[j]? = some u → W.cell? ⟨b, off + k * size + j, none⟩ = some u := by
  obtain ⟨A', c', e, h1, h2, h3⟩ := h
  injection e with e1 e2 e3
  subst e1 e2 e3
  obtain ⟨b, off, rfl, hb, h4⟩ := h3 (by omega)
  obtain ⟨cs, h5, h6, h7⟩ := h4 k L[k] (List.getElem?_eq_getElem hk)
  exact ⟨rfl, b, off, L[k], cs, rfl, hb, List.getElem?_eq_getElem hk, h5, h6, h7⟩

theorem own_heap {w w' : World} {base n size : Nat} {e : TypeId} {v : Value} {xs : List Value} (h : w.ownsRow base e size v n xs) (hw : w'.heap = w.heap) : w'.ownsRow base e size v n xs := by
  unfold World.ownsRow at h ⊢
  rw [hw]
  exact h
theorem NetP.heap {w w' : World} {bn c : Nat} {L : Pcls} {lost : Int} (h : NetP w bn c L lost) (hw : w'.heap = w.heap) : NetP w' bn c L lost := by
  obtain ⟨⟨hb, s, r, hc⟩, h2, h3, h4, h5⟩ := h
  refine ⟨⟨?_, s, r, by rw [hw]; exact hc⟩, h2, fun x hx => own_heap (h3 x hx) hw, h4, h5⟩
  unfold Blk at hb ⊢
  rw [hw]
  exact hb

theorem sSend_lost (p : Pcl) (ps : List Pcl) (lost : Int) (k : Nat) (h0 : 0 ≤ lost) (hk : lost ≤ k) : 0 ≤ (sSend p ps lost).2.2 ∧ (sSend p ps lost).2.2 ≤ ((k + 1 : Nat) : Int) := by
  unfold sSend
  split <;> simp <;> omega
theorem sTwice_lost (ps : List Pcl) (i lost : Int) (k : Nat) (h0 : 0 ≤ lost) (hk : lost ≤ k) : 0 ≤ (sTwice ps i lost).2.2 ∧ (sTwice ps i lost).2.2 ≤ ((k + 1 : Nat) : Int) := by
  unfold sTwice
  split
  · simp; omega
  · exact sSend_lost _ _ _ _ h0 hk
theorem sLost_lost (ps : List Pcl) (i lost : Int) (k : Nat) (h0 : 0 ≤ lost) (hk : lost ≤ k) : 0 ≤ sLost ps i lost ∧ sLost ps i lost ≤ ((k + 1 : Nat) : Int) := by
  unfold sLost
  split <;> omega

theorem PlayRel.of_both {w wr w1 w2 : World} {bn c bm k : Nat} {vL : Value} {L M : Pcls} {lost lost' : Int} {ps : List Pcl} (h : Play w bn c bm vL L M lost wr) (s1 : NetStep wr bn c L ps lost' w1) (s2 : RefStep w1 bm vL M ps lost' w2) (hl : 0 ≤ lost' ∧ lost' ≤ ((k + 1 : Nat) : Int)) : PlayRel w bn c bm (k + 1) w2 := by
  obtain ⟨vL', L', M', h'⟩ := h.both s1 s2
  exact ⟨vL', L', M', lost', h', hl.1, hl.2⟩

theorem NetStep.upd0 {w w1 w2 : World} {bn c : Nat} {L : Pcls} {ps : List Pcl} {lost : Int} (h : NetStep w bn c L ps lost w1) (hu : Upd Nowhere w1 w2) : NetStep w bn c L ps lost w2 := by
  obtain ⟨L', n, e, f, u⟩ := h
  exact ⟨L', n.upd hu fun _ _ => id, e, f, u.trans hu fun _ _ h => h.elim⟩
theorem PlayRel.upd0 {w wr w1 : World} {bn c bm k : Nat} (h : PlayRel w bn c bm k wr) (hu : Upd Nowhere wr w1) : PlayRel w bn c bm k w1 := by
  obtain ⟨vL, L, M, lost, h, h0, h9⟩ := h
  exact ⟨vL, L, M, lost, h.upd0 hu, h0, h9⟩
theorem Play.step1 {w wr w1 : World} {bn c bm : Nat} {vL : Value} {L M : Pcls} {lost : Int} (h : Play w bn c bm vL L M lost wr) (s1 : NetStep wr bn c L (pclsOf L) lost w1) : ∃ L', Play w bn c bm vL L' M lost w1 := by
  obtain ⟨L', n1, e1, f1, u1⟩ := s1
  refine ⟨L', Upd.onto h.below u1 h.new1 h.below.size, n1, h.ref.upd u1 fun k hk hf => h.apart k hf hk, e1.trans h.same, fun k hk hr => ?_, fun k hk => ?_, h.new2⟩
  · rcases f1 k hk with h' | h'
    · exact h.apart k h' hr
    · have := h.ref.lt hr
      omega
  · rcases f1 k hk with h' | h'
    · exact h.new1 k h'
    · have := h.below.size
      omega
theorem sPcl_small {w : World} {bn c : Nat} {L : Pcls} {lost : Int} (h : NetP w bn c L lost) (i : Int) : (sPcl (pclsOf L) i).body.length ≤ 4096 := by
  unfold sPcl
  rcases pAt_cases L i with ⟨e, _⟩ | ⟨n, x, rfl, hx, e⟩
  · rw [e]; simp [noPcl]
  · rw [e]; exact h.small x (List.mem_of_getElem? hx)
theorem look_any2 (bn c : Nat) (L : Pcls) (lost : Int) (w : World) (i : Int) (h : NetP w bn c L lost) :
    Calls Try.prog 18 #[.pointer (some ⟨bn, 0, none⟩), .int .i64 i] w fun e w' => ∃ v, e = .returned (.tuple #[(sPcl (pclsOf L) i).val v, .int .i64 (sCode (pclsOf L) i)]) ∧ Reads w' 1 v (sPcl (pclsOf L) i).body.length (bytesV (sPcl (pclsOf L) i).body) ∧ (∀ k, v.ownBlock = some k → w.heap.size ≤ k) ∧ NetStep w bn c L (pclsOf L) lost w' := by
  unfold sCode sPcl
  rcases pAt_cases L i with ⟨e, hi⟩ | ⟨n, x, rfl, hx, e⟩
  · rw [e]
    refine (look_bad bn c L lost w i h hi).mono ?_
    rintro e w' ⟨rfl, hu⟩
    exact ⟨.slice none 0 0, rfl, ⟨none, 0, rfl, Nat.le_refl _, rfl, fun h => absurd h (by decide)⟩, fun k hk => by simp [Value.ownBlock] at hk, .same h hu⟩
  · rw [e]
    refine (look_ok bn c L lost n x w h hx).mono ?_
    rintro e w' ⟨v', rfl, hn, ho, hu⟩
    exact ⟨v', rfl, Reads.of_own ho, fun k hk => (ho.lt k hk).1, .kept hn (hu.mono fun _ _ h => .inl h)⟩

set_option maxHeartbeats 8000000 in
set_option maxRecDepth 100000 in
theorem netPlays_walk (A : Option Addr) (ca : Nat) (Q : List CallD) (w : World) (h : RowsAt w 8 (CallAt w) (.slice A Q.length ca) Q) :
    Calls Try.prog 5 #[.slice A Q.length ca] w fun e w' => e = .returned (.bool true) ∧ Below w.heap.size w w' := by
  have HA := Lib.hid h
  clear h
  by_cases hlong : 80 < Q.length
  · go_enter Try.func5, Try.ntmps5
    go_wp2_with fail
    refine (awake_ok _).mono ?_
    rintro e w1 ⟨rfl, hb⟩
    go_wp2
    go_ret
    exact ⟨rfl, hb⟩
  · have d1 : decide (80 < (Q.length : Int)) = false := by simp; omega
    go_enter Try.func5, Try.ntmps5
    go_wp2_with fail
    refine (new_ok _).mono ?_
    rintro e w1 ⟨rfl, hw1⟩
    have hn1 : NetP w1 (w.heap.size + 1) w.heap.size [] 0 := by rw [hw1]; exact NetP.new w
    have hb1 : Below w.heap.size w w1 := by rw [hw1]; exact ((Below.refl _ _).alloc (Nat.le_refl _) _).alloc (by simp) _
    have hs1 : w1.heap.size = w.heap.size + 2 := by rw [hw1]; simp
    clear hw1
    have hR1 : RefP (w1.alloc (.cells #[.slice none 0 0, .int .i64 0] 42)) w1.heap.size (.slice none 0 0) [] 0 :=
      ⟨Blk.new _ _ _, World.ownsRow_nil _ _ _ _, by simp, by simp, List.Pairwise.nil, by simp⟩
    have HR : Hid (PlayRel w (w.heap.size + 1) w.heap.size w1.heap.size 0 (w1.alloc (.cells #[.slice none 0 0, .int .i64 0] 42))) := by
      refine ⟨.slice none 0 0, [], [], 0, ⟨hb1.alloc (by omega) _, hn1.upd ((Upd.refl Nowhere w1).alloc _) fun _ _ => id, hR1, rfl, ?_, ?_, ?_⟩, by omega, by omega⟩
      · rintro j (h | h | ⟨x, hx, _⟩) (h' | h' | ⟨y, hy, _⟩)
        all_goals first | (simp [Value.ownBlock] at h'; done) | (cases hx; done) | (cases hy; done) | omega
      · rintro j (h | h | ⟨x, hx, _⟩)
        · omega
        · omega
        · cases hx
      · rintro j (h | h | ⟨x, hx, _⟩)
        · omega
        · simp [Value.ownBlock] at h
        · cases hx
    generalize w.heap.size + 1 = bn at *
    obtain ⟨c, hc⟩ : ∃ c, c = w.heap.size := ⟨_, rfl⟩
    have HR' : Hid (PlayRel w bn c w1.heap.size 0 (w1.alloc (.cells #[.slice none 0 0, .int .i64 0] 42))) := by rw [hc]; exact HR
    clear HR hn1 hb1 hs1 hR1 hc
    go_wp2_with fail
    generalize w1.heap.size = bm at *
    go_loopw [5] (fun t wr => ∃ k : Nat, k ≤ Q.length ∧ t = .int .i64 k ∧ PlayRel w bn c bm k wr) (fun t _ => Q.length - (intOf t).toNat)
    case atStart => exact ⟨0, Nat.zero_le _, rfl, HR'.out⟩
    case round =>
      clear HR'
      obtain ⟨k, hk, rfl, hrel⟩ := hrel
      obtain ⟨vL, L, M, lost, hpl, hl0, hl9⟩ := hrel
      have HP := Lib.hid hpl
      have hsz := hpl.below.size
      clear hpl
      by_cases hlt : k < Q.length
      · obtain ⟨_, b, off, x, cs, rfl, hb, hx, _, ⟨hcs, hrd, hmx⟩, hcell⟩ := rows_at' HA.out hlt
        obtain ⟨A2, c2, hv, _⟩ := hrd.val
        subst hcs
        have HRd := Lib.hid hrd
        have g0 := (HP.out.below.cell (p := ⟨b, off + k * 8, none⟩) hb).trans (hcell 0 _ rfl)
        have g1 := (HP.out.below.cell (p := ⟨b, off + k * 8 + 1, none⟩) hb).trans (hcell 1 _ rfl)
        have g2 := (HP.out.below.cell (p := ⟨b, off + k * 8 + 2, none⟩) hb).trans (hcell 2 _ rfl)
        have g3 := (HP.out.below.cell (p := ⟨b, off + k * 8 + 3, none⟩) hb).trans (hcell 3 _ rfl)
        have g4 := (HP.out.below.cell (p := ⟨b, off + k * 8 + 4, none⟩) hb).trans (hcell 4 _ rfl)
        have g5 := (HP.out.below.cell (p := ⟨b, off + k * 8 + 5, none⟩) hb).trans (hcell 5 _ rfl)
        have g6 := (HP.out.below.cell (p := ⟨b, off + k * 8 + 6, none⟩) hb).trans (hcell 6 _ rfl)
        have g7 := (HP.out.below.cell (p := ⟨b, off + k * 8 + 7, none⟩) hb).trans (hcell 7 _ rfl)
        rw [hv] at g6
        have HV := Lib.hid hv
        clear hx hcell hrd hv
        unfold maxLen at hmx
        by_cases h500 : 500 < x.p.body.length
        · go_wp2_with fail
          refine (awake_ok _).mono ?_
          rintro e w2 ⟨rfl, hb2⟩
          have HB2 := Lib.hid ((HP.out.below.alloc hsz _).trans (hb2.mono (by simp; omega)))
          clear hb2
          go_wp2
          go_ret
          exact ⟨rfl, HB2.out⟩
        · have d500 : decide (500 < (x.p.body.length : Int)) = false := by simp; omega
          go_upto_region 11 with (fail)
          obtain ⟨wq, hwq⟩ : ∃ wq, wq = wr.alloc (.cells #[.int .i64 x.kind, .int .i64 x.i, .int .i64 x.at_, .int .u8 x.mask.toNat, .int .i64 x.p.frm, .int .i64 x.p.dst, .slice A2 x.p.body.length c2, .bool x.p.spoilt] 44) := ⟨_, rfl⟩
          rw [← hwq]
          have hbq : Blk wq wr.heap.size 44 #[.int .i64 x.kind, .int .i64 x.i, .int .i64 x.at_, .int .u8 x.mask.toNat, .int .i64 x.p.frm, .int .i64 x.p.dst, .slice A2 x.p.body.length c2, .bool x.p.spoilt] := by rw [hwq]; exact Blk.new _ _ _
          have hpq : Play w bn c bm vL L M lost wq := by rw [hwq]; exact HP.out.upd0 ((Upd.refl Nowhere wr).alloc _)
          have hrq : Reads wq 1 (.slice A2 x.p.body.length c2) x.p.body.length (bytesV x.p.body) := by
            have h1 := HRd.out.below HP.out.below
            rw [HV.out] at h1
            rw [hwq]
            exact h1.alloc _
          have hrw : Reads w 1 (.slice A2 x.p.body.length c2) x.p.body.length (bytesV x.p.body) := by
            have h1 := HRd.out
            rw [HV.out] at h1
            exact h1
          have HRW := Lib.hid hrw
          have hf1 : ∀ k, foot bn c L k → k ≠ wr.heap.size := fun k hk he => by have := HP.out.net.lt hk; omega
          have hf2 : ∀ k, rfoot bm vL M k → k ≠ wr.heap.size := fun k hk he => by have := HP.out.ref.lt hk; omega
          have cq := hbq.cell
          have HBQ := Lib.hid hbq
          have HPQ := Lib.hid hpq
          have HRQ := Lib.hid hrq
          have HF1 := Lib.hid hf1
          have HF2 := Lib.hid hf2
          have hlost : lost ≤ 9223372036854775806 := by omega
          generalize wr.heap.size = bq at *
          clear hrw hwq hbq hpq hrq hf1 hf2 HP HRd HV g0 g1 g2 g3 g4 g5 g6 g7
          by_cases k0 : x.kind = 0
          · have dk : (x.kind == 0) = true := by simpa using k0
            clear k0
            go_upto_region 14 with (fail)
            go_region_held3 (fun w' => ∀ i, w'.cell? ⟨bq, i, none⟩ = (#[.int .i64 x.kind, .int .i64 x.i, .int .i64 x.at_, .int .u8 x.mask.toNat, .int .i64 x.p.frm, .int .i64 x.p.dst, .slice A2 x.p.body.length c2, .bool x.p.spoilt] : Array Value)[i]?)
              (first | exact HK3.out | exact HK2.out | exact HK1.out | exact cq)
              (first
                | (go_at_call 11; refine (copy_ok _ _ _ _ _ _ _ HRQ.out.drew (bytesV_one _) (by omega)).mono ?_; rintro e w1 ⟨v1, rfl, ho1, hu1⟩
                   have hB1 := HBQ.out.drew.upd hu1 id
                   have hP1 := HPQ.out.upd0 (((Upd.refl Nowhere wq).drew).trans hu1 fun _ _ => id)
                   have HR1 := Lib.hid (Reads.of_own ho1)
                   have HK1 := Lib.hid hB1.cell
                   have HB1 := Lib.hid hB1
                   have HP1 := Lib.hid hP1
                   clear ho1 hu1 hB1 hP1)
                | (go_at_call 10; refine (send_any bn c L lost w1 hl0 hlost x.p v1 HP1.out.net HR1.out (by omega)).mono ?_; rintro e w2 ⟨rfl, hs2⟩
                   have hu2 := hs2.choose_spec.2.2.2
                   have hB2 := HB1.out.upd hu2 fun he => HF1.out _ he rfl
                   have HK2 := Lib.hid hB2.cell
                   have HB2 := Lib.hid hB2
                   have HRQ2 := Lib.hid (HRW.out.below (HP1.out.mid hs2).2)
                   have HS2 := Lib.hid hs2
                   have HM2 := Lib.hid (HP1.out.mid hs2).1
                   clear hs2 hu2 hB2)
                | (go_at_call 17; refine (refSend_any bm vL M lost w2 hl0 hlost x.p _ HM2.out HRQ2.out (by omega)).mono ?_; rintro e w3 ⟨rfl, hs3⟩
                   have hu3 := hs3.choose_spec.choose_spec.2.2.2
                   have HK3 := Lib.hid (HB2.out.upd hu3 fun he => HF2.out _ he rfl).cell
                   have HS3 := Lib.hid hs3
                   clear hs3 hu3))
            have hsame : pclsOf M = pclsOf L := HPQ.out.same.symm
            rw [hsame] at HS3 ⊢
            have HPl := Lib.hid (PlayRel.of_both HP1.out HS2.out HS3.out (sSend_lost _ _ _ k hl0 hl9))
            rw [beq_self_eq_true]
            generalize (sSend x.p (pclsOf L) lost).1 = code
            clear hsame HS2 HS3 HK1 HK2 HK3 HB1 HB2 HP1 HM2 HR1 HRQ2 cq HBQ HPQ HRQ HRW HF1 HF2
            obtain ⟨vL', L', M', lost', hp, hl0', hl9'⟩ := HPl.out
            obtain ⟨AM, cM, hvM⟩ := hp.ref.form
            have cbm := hp.ref.blk.cell
            rw [hvM] at cbm
            have hll : L'.length = M'.length := by
              have := congrArg List.length hp.same
              rwa [pclsOf_length, pclsOf_length] at this
            have HNet := Lib.hid hp.net
            have HLL := Lib.hid hll
            have HLenM : Hid (∀ W, W.heap = w3.heap → Calls Try.prog 14 #[.pointer (some ⟨bn, 0, none⟩)] W fun e w' => e = .returned (.int .i64 M'.length) ∧ W = w') := fun W hW => by
              have := len_okP (hp.net.heap hW)
              rwa [hll] at this
            have HLostM : Hid (∀ W, W.heap = w3.heap → Calls Try.prog 15 #[.pointer (some ⟨bn, 0, none⟩)] W fun e w' => e = .returned (.int .i64 lost') ∧ W = w') := fun W hW => lost_okP (hp.net.heap hW)
            clear hp hvM hll
            go_upto_region 27 with (fail)
            go_region_held3 (fun w' => ∀ i, w'.cell? ⟨bm, i, none⟩ = (#[.slice AM M'.length cM, .int .i64 lost'] : Array Value)[i]?) (exact cbm)
              (first
                | (go_at_call 14; refine (HLenM.out _ (by rfl)).mono ?_; rintro e w4 ⟨rfl, rfl⟩)
                | (go_at_call 15; refine (HLostM.out _ (by rfl)).mono ?_; rintro e w4 ⟨rfl, rfl⟩))
            go_wp2
            go_roundw
            case rel => exact ⟨k + 1, by omega, by go_num, HPl.out.upd0 (Upd.refl Nowhere w3).drew⟩
            case measure => simp [intOf]; omega
          · have dn0 : (x.kind == 0) = false := by simpa using k0
            clear k0
            by_cases k1 : x.kind = 1
            · have dk : (x.kind == 1) = true := by simpa using k1
              clear k1
              go_wp2_with fail
              refine (look_any2 bn c L lost wq x.i HPQ.out.net).mono ?_
              rintro e w1 ⟨v1, rfl, hr1, hv1, hs1⟩
              have hp1 : (sPcl (pclsOf L) x.i).body.length ≤ 4096 := sPcl_small HPQ.out.net x.i
              obtain ⟨A3, c3, hv3, _⟩ := hr1.val
              have hu1 := hs1.choose_spec.2.2.2
              have hB1 := HBQ.out.upd hu1 fun he => HF1.out _ he rfl
              have cq1 := hB1.cell
              have lq1 := hB1.lt
              have hbz : ∀ k, rfoot bm vL M k → k < w1.heap.size := fun k hk => by
                have := HPQ.out.ref.lt hk
                have := hu1.size
                omega
              have HV1 : Hid (∀ k, v1.ownBlock = some k → ¬ rfoot bm vL M k) := fun k hk hr => by have := hv1 k hk; have := HPQ.out.ref.lt hr; omega
              have HM1 := Lib.hid (HPQ.out.mid hs1).1
              have HS1 := Lib.hid hs1
              have HZ := Lib.hid hbz
              subst hv3
              have HR1 := Lib.hid hr1
              clear hr1 hv1 hs1 hu1 hB1 hbz
              have hsame : pclsOf M = pclsOf L := HPQ.out.same.symm
              have HSame := Lib.hid hsame
              clear hsame
              unfold Pcl.val Pcl.cells
              obtain ⟨p, hpp⟩ : ∃ p, p = sPcl (pclsOf L) x.i := ⟨_, rfl⟩
              obtain ⟨code, hcc⟩ : ∃ code, code = sCode (pclsOf L) x.i := ⟨_, rfl⟩
              rw [← hpp] at HR1 HV1 hp1 ⊢
              rw [← hcc]
              have HPP := Lib.hid hpp
              have HCC := Lib.hid hcc
              clear hpp hcc
              go_wp2_with fail
              refine (refLook_any bm vL M lost _ x.i (HM1.out.upd ((Upd.refl Nowhere w1).alloc _) fun _ _ => id)).mono ?_
              rintro e w2 ⟨v2, rfl, hr2, hs2⟩
              rw [HSame.out] at hr2 hs2 ⊢
              rw [← HPP.out] at hr2 ⊢
              rw [← HCC.out]
              have hu2 := hs2.choose_spec.choose_spec.2.2.2
              have hB2 := (Blk.new w1 28 #[.int .i64 p.frm, .int .i64 p.dst, .slice A3 p.body.length c3, .bool p.spoilt]).upd hu2 fun he => absurd (HZ.out _ he) (Nat.lt_irrefl _)
              have cz := hB2.cell
              have lz := hB2.lt
              have HR1' := Lib.hid ((HR1.out.alloc _).upd hu2 fun k hk => HV1.out k hk)
              obtain ⟨A4, c4, hv4, _⟩ := hr2.val
              subst hv4
              have HR2 := Lib.hid hr2
              have HPl2 := Lib.hid (PlayRel.of_both (k := k) HPQ.out (HS1.out.upd0 ((Upd.refl Nowhere w1).alloc _)) hs2 ⟨hl0, by omega⟩)
              generalize w1.heap.size = bz at *
              clear hr2 hs2 hu2 hB2 HZ HV1 HR1 HS1 HM1 HSame HPP HCC cq1 lq1 cq HBQ HPQ HRQ HRW HF1 HF2
              unfold Pcl.val Pcl.cells
              go_wp2_with fail
              refine (same20 _ _ _ _ _ _ _ _ p.body p.body _ (HR1'.out.alloc _) (HR2.out.alloc _) (by omega)).mono ?_
              rintro e w3 ⟨rfl, hu3⟩
              rw [show (Pcl.same ⟨p.frm, p.dst, p.body, p.spoilt⟩ ⟨p.frm, p.dst, p.body, p.spoilt⟩) = true from Pcl.same_refl _]
              have HPl := Lib.hid (HPl2.out.upd0 (((Upd.refl Nowhere w2).alloc _).trans hu3 fun _ _ => id))
              clear hu3 HPl2 HR1' HR2 cz lz
              obtain ⟨vL', L', M', lost', hp, hl0', hl9'⟩ := HPl.out
              obtain ⟨AM, cM, hvM⟩ := hp.ref.form
              have cbm := hp.ref.blk.cell
              rw [hvM] at cbm
              have hll : L'.length = M'.length := by
                have := congrArg List.length hp.same
                rwa [pclsOf_length, pclsOf_length] at this
              have HNet := Lib.hid hp.net
              have HLL := Lib.hid hll
              have HLenM : Hid (∀ W, W.heap = w3.heap → Calls Try.prog 14 #[.pointer (some ⟨bn, 0, none⟩)] W fun e w' => e = .returned (.int .i64 M'.length) ∧ W = w') := fun W hW => by
                have := len_okP (hp.net.heap hW)
                rwa [hll] at this
              have HLostM : Hid (∀ W, W.heap = w3.heap → Calls Try.prog 15 #[.pointer (some ⟨bn, 0, none⟩)] W fun e w' => e = .returned (.int .i64 lost') ∧ W = w') := fun W hW => lost_okP (hp.net.heap hW)
              clear hp hvM hll
              go_upto_region 27 with (fail)
              go_region_held3 (fun w' => ∀ i, w'.cell? ⟨bm, i, none⟩ = (#[.slice AM M'.length cM, .int .i64 lost'] : Array Value)[i]?) (exact cbm)
                (first
                  | (go_at_call 14; refine (HLenM.out _ (by rfl)).mono ?_; rintro e w4 ⟨rfl, rfl⟩)
                  | (go_at_call 15; refine (HLostM.out _ (by rfl)).mono ?_; rintro e w4 ⟨rfl, rfl⟩))
              go_wp2
              go_roundw
              case rel => exact ⟨k + 1, by omega, by go_num, HPl.out.upd0 (Upd.refl Nowhere w3).drew⟩
              case measure => simp [intOf]; omega
            · have dn1 : (x.kind == 1) = false := by simpa using k1
              clear k1
              by_cases k2 : x.kind = 2
              · have dk : (x.kind == 2) = true := by simpa using k2
                clear k2
                go_wp2_with fail
                refine (take_any bn c L lost wq x.i HPQ.out.net).mono ?_
                rintro e w1 ⟨v1, rfl, hr1, hv1, hs1⟩
                have hp1 : (sPcl (pclsOf L) x.i).body.length ≤ 4096 := sPcl_small HPQ.out.net x.i
                obtain ⟨A3, c3, hv3, _⟩ := hr1.val
                have hu1 := hs1.choose_spec.2.2.2
                have hB1 := HBQ.out.upd hu1 fun he => HF1.out _ he rfl
                have cq1 := hB1.cell
                have lq1 := hB1.lt
                have hbz : ∀ k, rfoot bm vL M k → k < w1.heap.size := fun k hk => by
                  have := HPQ.out.ref.lt hk
                  have := hu1.size
                  omega
                have HV1 : Hid (∀ k, v1.ownBlock = some k → ¬ rfoot bm vL M k) := fun k hk hr => HPQ.out.apart k (hv1 k hk) hr
                have HM1 := Lib.hid (HPQ.out.mid hs1).1
                have HS1 := Lib.hid hs1
                have HZ := Lib.hid hbz
                subst hv3
                have HR1 := Lib.hid hr1
                clear hr1 hv1 hs1 hu1 hB1 hbz
                have hsame : pclsOf M = pclsOf L := HPQ.out.same.symm
                have HSame := Lib.hid hsame
                clear hsame
                unfold Pcl.val Pcl.cells
                obtain ⟨p, hpp⟩ : ∃ p, p = sPcl (pclsOf L) x.i := ⟨_, rfl⟩
                obtain ⟨code, hcc⟩ : ∃ code, code = sCode (pclsOf L) x.i := ⟨_, rfl⟩
                rw [← hpp] at HR1 HV1 hp1 ⊢
                rw [← hcc]
                have HPP := Lib.hid hpp
                have HCC := Lib.hid hcc
                clear hpp hcc
                go_wp2_with fail
                refine (refTake_any bm vL M lost _ x.i (HM1.out.upd ((Upd.refl Nowhere w1).alloc _) fun _ _ => id)).mono ?_
                rintro e w2 ⟨v2, rfl, hr2, hs2⟩
                rw [HSame.out] at hr2 hs2 ⊢
                rw [← HPP.out] at hr2 ⊢
                rw [← HCC.out]
                have hu2 := hs2.choose_spec.choose_spec.2.2.2
                have hB2 := (Blk.new w1 28 #[.int .i64 p.frm, .int .i64 p.dst, .slice A3 p.body.length c3, .bool p.spoilt]).upd hu2 fun he => absurd (HZ.out _ he) (Nat.lt_irrefl _)
                have cz := hB2.cell
                have lz := hB2.lt
                have HR1' := Lib.hid ((HR1.out.alloc _).upd hu2 fun k hk => HV1.out k hk)
                obtain ⟨A4, c4, hv4, _⟩ := hr2.val
                subst hv4
                have HR2 := Lib.hid hr2
                have HPl2 := Lib.hid (PlayRel.of_both (k := k) HPQ.out (HS1.out.upd0 ((Upd.refl Nowhere w1).alloc _)) hs2 ⟨hl0, by omega⟩)
                generalize w1.heap.size = bz at *
                clear hr2 hs2 hu2 hB2 HZ HV1 HR1 HS1 HM1 HSame HPP HCC cq1 lq1 cq HBQ HPQ HRQ HRW HF1 HF2
                unfold Pcl.val Pcl.cells
                go_wp2_with fail
                refine (same20 _ _ _ _ _ _ _ _ p.body p.body _ (HR1'.out.alloc _) (HR2.out.alloc _) (by omega)).mono ?_
                rintro e w3 ⟨rfl, hu3⟩
                rw [show (Pcl.same ⟨p.frm, p.dst, p.body, p.spoilt⟩ ⟨p.frm, p.dst, p.body, p.spoilt⟩) = true from Pcl.same_refl _]
                have HPl := Lib.hid (HPl2.out.upd0 (((Upd.refl Nowhere w2).alloc _).trans hu3 fun _ _ => id))
                clear hu3 HPl2 HR1' HR2 cz lz
                obtain ⟨vL', L', M', lost', hp, hl0', hl9'⟩ := HPl.out
                obtain ⟨AM, cM, hvM⟩ := hp.ref.form
                have cbm := hp.ref.blk.cell
                rw [hvM] at cbm
                have hll : L'.length = M'.length := by
                  have := congrArg List.length hp.same
                  rwa [pclsOf_length, pclsOf_length] at this
                have HNet := Lib.hid hp.net
                have HLL := Lib.hid hll
                have HLenM : Hid (∀ W, W.heap = w3.heap → Calls Try.prog 14 #[.pointer (some ⟨bn, 0, none⟩)] W fun e w' => e = .returned (.int .i64 M'.length) ∧ W = w') := fun W hW => by
                  have := len_okP (hp.net.heap hW)
                  rwa [hll] at this
                have HLostM : Hid (∀ W, W.heap = w3.heap → Calls Try.prog 15 #[.pointer (some ⟨bn, 0, none⟩)] W fun e w' => e = .returned (.int .i64 lost') ∧ W = w') := fun W hW => lost_okP (hp.net.heap hW)
                clear hp hvM hll
                go_upto_region 27 with (fail)
                go_region_held3 (fun w' => ∀ i, w'.cell? ⟨bm, i, none⟩ = (#[.slice AM M'.length cM, .int .i64 lost'] : Array Value)[i]?) (exact cbm)
                  (first
                    | (go_at_call 14; refine (HLenM.out _ (by rfl)).mono ?_; rintro e w4 ⟨rfl, rfl⟩)
                    | (go_at_call 15; refine (HLostM.out _ (by rfl)).mono ?_; rintro e w4 ⟨rfl, rfl⟩))
                go_wp2
                go_roundw
                case rel => exact ⟨k + 1, by omega, by go_num, HPl.out.upd0 (Upd.refl Nowhere w3).drew⟩
                case measure => simp [intOf]; omega
              · have dn2 : (x.kind == 2) = false := by simpa using k2
                clear k2
                by_cases k3 : x.kind = 3
                · have dk : (x.kind == 3) = true := by simpa using k3
                  clear k3
                  go_upto_region 24 with (fail)
                  have HP1 := Lib.hid (HPQ.out.upd0 (Upd.refl Nowhere wq).drew)
                  go_region_held3 (fun w' => ∀ i, w'.cell? ⟨bq, i, none⟩ = (#[.int .i64 x.kind, .int .i64 x.i, .int .i64 x.at_, .int .u8 x.mask.toNat, .int .i64 x.p.frm, .int .i64 x.p.dst, .slice A2 x.p.body.length c2, .bool x.p.spoilt] : Array Value)[i]?)
                    (first | exact HK3.out | exact HK2.out | exact cq)
                    (first
                      | (go_at_call 21; refine (drop_any bn c L lost wq.drew hl0 hlost x.i HP1.out.net).mono ?_; rintro e w2 ⟨rfl, hs2⟩
                         have hu2 := hs2.choose_spec.2.2.2
                         have hB2 := HBQ.out.drew.upd hu2 fun he => HF1.out _ he rfl
                         have HK2 := Lib.hid hB2.cell
                         have HB2 := Lib.hid hB2
                         have HS2 := Lib.hid hs2
                         have HM2 := Lib.hid (HP1.out.mid hs2).1
                         clear hs2 hu2 hB2)
                      | (go_at_call 22; refine (refDrop_any bm vL M lost w2 hl0 hlost x.i HM2.out).mono ?_; rintro e w3 ⟨rfl, hs3⟩
                         have hu3 := hs3.choose_spec.choose_spec.2.2.2
                         have HK3 := Lib.hid (HB2.out.upd hu3 fun he => HF2.out _ he rfl).cell
                         have HS3 := Lib.hid hs3
                         clear hs3 hu3))
                  have hsame : pclsOf M = pclsOf L := HPQ.out.same.symm
                  rw [hsame] at HS3 ⊢
                  have HPl := Lib.hid (PlayRel.of_both HP1.out HS2.out HS3.out (sLost_lost _ _ _ k hl0 hl9))
                  rw [beq_self_eq_true]
                  generalize sCode (pclsOf L) x.i = code
                  clear hsame HS2 HS3 HK2 HK3 HB2 HP1 HM2 cq HBQ HPQ HRQ HRW HF1 HF2
                  obtain ⟨vL', L', M', lost', hp, hl0', hl9'⟩ := HPl.out
                  obtain ⟨AM, cM, hvM⟩ := hp.ref.form
                  have cbm := hp.ref.blk.cell
                  rw [hvM] at cbm
                  have hll : L'.length = M'.length := by
                    have := congrArg List.length hp.same
                    rwa [pclsOf_length, pclsOf_length] at this
                  have HNet := Lib.hid hp.net
                  have HLL := Lib.hid hll
                  have HLenM : Hid (∀ W, W.heap = w3.heap → Calls Try.prog 14 #[.pointer (some ⟨bn, 0, none⟩)] W fun e w' => e = .returned (.int .i64 M'.length) ∧ W = w') := fun W hW => by
                    have := len_okP (hp.net.heap hW)
                    rwa [hll] at this
                  have HLostM : Hid (∀ W, W.heap = w3.heap → Calls Try.prog 15 #[.pointer (some ⟨bn, 0, none⟩)] W fun e w' => e = .returned (.int .i64 lost') ∧ W = w') := fun W hW => lost_okP (hp.net.heap hW)
                  clear hp hvM hll
                  go_upto_region 27 with (fail)
                  go_region_held3 (fun w' => ∀ i, w'.cell? ⟨bm, i, none⟩ = (#[.slice AM M'.length cM, .int .i64 lost'] : Array Value)[i]?) (exact cbm)
                    (first
                      | (go_at_call 14; refine (HLenM.out _ (by rfl)).mono ?_; rintro e w4 ⟨rfl, rfl⟩)
                      | (go_at_call 15; refine (HLostM.out _ (by rfl)).mono ?_; rintro e w4 ⟨rfl, rfl⟩))
                  go_wp2
                  go_roundw
                  case rel => exact ⟨k + 1, by omega, by go_num, HPl.out.upd0 (Upd.refl Nowhere w3).drew⟩
                  case measure => simp [intOf]; omega
                · have dn3 : (x.kind == 3) = false := by simpa using k3
                  clear k3
                  by_cases k4 : x.kind = 4
                  · have dk : (x.kind == 4) = true := by simpa using k4
                    clear k4
                    go_upto_region 26 with (fail)
                    have HP1 := Lib.hid (HPQ.out.upd0 (Upd.refl Nowhere wq).drew)
                    go_region_held3 (fun w' => ∀ i, w'.cell? ⟨bq, i, none⟩ = (#[.int .i64 x.kind, .int .i64 x.i, .int .i64 x.at_, .int .u8 x.mask.toNat, .int .i64 x.p.frm, .int .i64 x.p.dst, .slice A2 x.p.body.length c2, .bool x.p.spoilt] : Array Value)[i]?)
                      (first | exact HK3.out | exact HK2.out | exact cq)
                      (first
                        | (go_at_call 16; refine (twice_any bn c L lost wq.drew hl0 hlost x.i HP1.out.net).mono ?_; rintro e w2 ⟨rfl, hs2⟩
                           have hu2 := hs2.choose_spec.2.2.2
                           have hB2 := HBQ.out.drew.upd hu2 fun he => HF1.out _ he rfl
                           have HK2 := Lib.hid hB2.cell
                           have HB2 := Lib.hid hB2
                           have HS2 := Lib.hid hs2
                           have HM2 := Lib.hid (HP1.out.mid hs2).1
                           clear hs2 hu2 hB2)
                        | (go_at_call 23; refine (refTwice_any bm vL M lost w2 hl0 hlost x.i HM2.out).mono ?_; rintro e w3 ⟨rfl, hs3⟩
                           have hu3 := hs3.choose_spec.choose_spec.2.2.2
                           have HK3 := Lib.hid (HB2.out.upd hu3 fun he => HF2.out _ he rfl).cell
                           have HS3 := Lib.hid hs3
                           clear hs3 hu3))
                    have hsame : pclsOf M = pclsOf L := HPQ.out.same.symm
                    rw [hsame] at HS3 ⊢
                    have HPl := Lib.hid (PlayRel.of_both HP1.out HS2.out HS3.out (sTwice_lost _ _ _ k hl0 hl9))
                    rw [beq_self_eq_true]
                    generalize (sTwice (pclsOf L) x.i lost).1 = code
                    clear hsame HS2 HS3 HK2 HK3 HB2 HP1 HM2 cq HBQ HPQ HRQ HRW HF1 HF2
                    obtain ⟨vL', L', M', lost', hp, hl0', hl9'⟩ := HPl.out
                    obtain ⟨AM, cM, hvM⟩ := hp.ref.form
                    have cbm := hp.ref.blk.cell
                    rw [hvM] at cbm
                    have hll : L'.length = M'.length := by
                      have := congrArg List.length hp.same
                      rwa [pclsOf_length, pclsOf_length] at this
                    have HNet := Lib.hid hp.net
                    have HLL := Lib.hid hll
                    have HLenM : Hid (∀ W, W.heap = w3.heap → Calls Try.prog 14 #[.pointer (some ⟨bn, 0, none⟩)] W fun e w' => e = .returned (.int .i64 M'.length) ∧ W = w') := fun W hW => by
                      have := len_okP (hp.net.heap hW)
                      rwa [hll] at this
                    have HLostM : Hid (∀ W, W.heap = w3.heap → Calls Try.prog 15 #[.pointer (some ⟨bn, 0, none⟩)] W fun e w' => e = .returned (.int .i64 lost') ∧ W = w') := fun W hW => lost_okP (hp.net.heap hW)
                    clear hp hvM hll
                    go_upto_region 27 with (fail)
                    go_region_held3 (fun w' => ∀ i, w'.cell? ⟨bm, i, none⟩ = (#[.slice AM M'.length cM, .int .i64 lost'] : Array Value)[i]?) (exact cbm)
                      (first
                        | (go_at_call 14; refine (HLenM.out _ (by rfl)).mono ?_; rintro e w4 ⟨rfl, rfl⟩)
                        | (go_at_call 15; refine (HLostM.out _ (by rfl)).mono ?_; rintro e w4 ⟨rfl, rfl⟩))
                    go_wp2
                    go_roundw
                    case rel => exact ⟨k + 1, by omega, by go_num, HPl.out.upd0 (Upd.refl Nowhere w3).drew⟩
                    case measure => simp [intOf]; omega
                  · have dn4 : (x.kind == 4) = false := by simpa using k4
                    clear k4
                    go_upto_region 12 with (fail)
                    have HP1 := Lib.hid (HPQ.out.upd0 (Upd.refl Nowhere wq).drew)
                    go_region_held3 (fun w' => ∀ i, w'.cell? ⟨bq, i, none⟩ = (#[.int .i64 x.kind, .int .i64 x.i, .int .i64 x.at_, .int .u8 x.mask.toNat, .int .i64 x.p.frm, .int .i64 x.p.dst, .slice A2 x.p.body.length c2, .bool x.p.spoilt] : Array Value)[i]?)
                      (first | exact HK3.out | exact HK2.out | exact cq)
                      (first
                        | (go_at_call 24; refine (spoil_any bn c L lost wq.drew x.i x.at_ x.mask HP1.out.net).mono ?_; rintro e w2 ⟨rfl, hs2⟩
                           have hu2 := hs2.choose_spec.2.2.2
                           have hB2 := HBQ.out.drew.upd hu2 fun he => HF1.out _ he rfl
                           have HK2 := Lib.hid hB2.cell
                           have HB2 := Lib.hid hB2
                           have HS2 := Lib.hid hs2
                           have HM2 := Lib.hid (HP1.out.mid hs2).1
                           clear hs2 hu2 hB2)
                        | (go_at_call 25; refine (refSpoil_any bm vL M lost w2 x.i x.at_ x.mask HM2.out).mono ?_; rintro e w3 ⟨rfl, hs3⟩
                           have hu3 := hs3.choose_spec.choose_spec.2.2.2
                           have HK3 := Lib.hid (HB2.out.upd hu3 fun he => HF2.out _ he rfl).cell
                           have HS3 := Lib.hid hs3
                           clear hs3 hu3))
                    have hsame : pclsOf M = pclsOf L := HPQ.out.same.symm
                    rw [hsame] at HS3 ⊢
                    have HPl := Lib.hid (PlayRel.of_both (k := k) HP1.out HS2.out HS3.out ⟨hl0, by omega⟩)
                    rw [beq_self_eq_true]
                    generalize (sSpoil (pclsOf L) x.i x.at_ x.mask).1 = code
                    clear hsame HS2 HS3 HK2 HK3 HB2 HP1 HM2 cq HBQ HPQ HRQ HRW HF1 HF2
                    obtain ⟨vL', L', M', lost', hp, hl0', hl9'⟩ := HPl.out
                    obtain ⟨AM, cM, hvM⟩ := hp.ref.form
                    have cbm := hp.ref.blk.cell
                    rw [hvM] at cbm
                    have hll : L'.length = M'.length := by
                      have := congrArg List.length hp.same
                      rwa [pclsOf_length, pclsOf_length] at this
                    have HNet := Lib.hid hp.net
                    have HLL := Lib.hid hll
                    have HLenM : Hid (∀ W, W.heap = w3.heap → Calls Try.prog 14 #[.pointer (some ⟨bn, 0, none⟩)] W fun e w' => e = .returned (.int .i64 M'.length) ∧ W = w') := fun W hW => by
                      have := len_okP (hp.net.heap hW)
                      rwa [hll] at this
                    have HLostM : Hid (∀ W, W.heap = w3.heap → Calls Try.prog 15 #[.pointer (some ⟨bn, 0, none⟩)] W fun e w' => e = .returned (.int .i64 lost') ∧ W = w') := fun W hW => lost_okP (hp.net.heap hW)
                    clear hp hvM hll
                    go_upto_region 27 with (fail)
                    go_region_held3 (fun w' => ∀ i, w'.cell? ⟨bm, i, none⟩ = (#[.slice AM M'.length cM, .int .i64 lost'] : Array Value)[i]?) (exact cbm)
                      (first
                        | (go_at_call 14; refine (HLenM.out _ (by rfl)).mono ?_; rintro e w4 ⟨rfl, rfl⟩)
                        | (go_at_call 15; refine (HLostM.out _ (by rfl)).mono ?_; rintro e w4 ⟨rfl, rfl⟩))
                    go_wp2
                    go_roundw
                    case rel => exact ⟨k + 1, by omega, by go_num, HPl.out.upd0 (Upd.refl Nowhere w3).drew⟩
                    case measure => simp [intOf]; omega
      · obtain ⟨AM, cM, hvM⟩ := HP.out.ref.form
        obtain rfl : k = Q.length := by omega
        have HP2 : Hid (∃ L, Play w bn c bm (.slice AM M.length cM) L M lost wr) := ⟨L, hvM ▸ HP.out⟩
        clear HP hvM hlt hk hl9
        go_wp2
        obtain ⟨wo, rfl⟩ : ∃ wo : World, wo = wr := ⟨_, rfl⟩
        go_loopw [16] (fun t w' => ∃ k : Nat, k ≤ M.length ∧ t = .int .i64 k ∧ ∃ L, Play w bn c bm (.slice AM M.length cM) L M lost w') (fun t _ => M.length - (intOf t).toNat)
        case atStart => exact ⟨0, Nat.zero_le _, rfl, HP2.out⟩
        case round =>
          clear HP2
          obtain ⟨k2, hk2, rfl, L2, hp2⟩ := hrel
          have cbm := hp2.ref.blk.cell
          have HP := Lib.hid hp2
          have hsz2 := hp2.below.size
          have hM := hp2.ref.len
          clear hp2
          by_cases hlt2 : k2 < M.length
          · go_wp2_with fail
            refine (look_any2 bn c L2 lost _ k2 HP.out.net).mono ?_
            rintro e w2 ⟨v2, rfl, hr2, _, hs2⟩
            have hp2 : (sPcl (pclsOf L2) k2).body.length ≤ 4096 := sPcl_small HP.out.net k2
            obtain ⟨L3, hp3⟩ := HP.out.step1 hs2
            have hx : M[k2]? = some M[k2] := List.getElem?_eq_getElem hlt2
            generalize M[k2] = y at hx
            have hpat : pAt (pclsOf L2) k2 = some y.1 := by
              rw [HP.out.same]
              unfold pAt
              simp [pclsOf_get, hx]
            have e1 : sPcl (pclsOf L2) k2 = y.1 := by unfold sPcl; rw [hpat]; rfl
            have e2 : sCode (pclsOf L2) k2 = 0 := by unfold sCode; rw [hpat]; rfl
            rw [e1] at hr2 hp2 ⊢
            rw [e2]
            obtain ⟨gL, cL, A5, c5, he, hv5, hlt5, g0, g1, g2, g3, _⟩ := ref_cells hp3.ref hx
            injection he with he1 he2 he3
            subst he1
            subst he3
            obtain ⟨A3, c3, hv3, _⟩ := hr2.val
            subst hv3
            have hr5 := Reads.of_own (hp3.ref.own y (List.mem_of_getElem? hx))
            rw [hv5] at hr5
            have cb3 := hp3.ref.blk.cell
            have lb3 := hp3.ref.blk.lt
            have HP3 := Lib.hid hp3
            have HR2 := Lib.hid hr2
            have HR5 := Lib.hid hr5
            clear he2 hv5 hr2 hr5 hp3 hs2 hx hpat e1 e2 HP cbm
            unfold Pcl.val Pcl.cells
            go_upto_region 33 with (fail)
            refine wp_region_tail 11 (by kernel_rfl) (by kernel_rfl) ?_
            simp only [List.take_succ_cons, List.take_zero, List.drop_succ_cons, List.drop_zero]
            repeat still_step
            refine wpStill_nil ?_
            go_wp2_with fail
            refine (same20 _ _ _ _ _ _ _ _ y.1.body y.1.body _ ((HR2.out.alloc _).drew) ((HR5.out.alloc _).drew) (by omega)).mono ?_
            rintro e w3 ⟨rfl, hu3⟩
            rw [show (Pcl.same ⟨y.1.frm, y.1.dst, y.1.body, y.1.spoilt⟩ ⟨y.1.frm, y.1.dst, y.1.body, y.1.spoilt⟩) = true from Pcl.same_refl _]
            have HS := Lib.hid (HP3.out.upd0 (((Upd.refl Nowhere w2).alloc _).drew.trans hu3 fun _ _ => id))
            clear hu3 HP3 HR2 HR5 g0 g1 g2 g3 cb3 lb3
            go_wp2
            go_roundw
            case rel => exact ⟨k2 + 1, by omega, by go_num, L3, HS.out⟩
            case measure => simp [intOf]; omega
          · obtain rfl : k2 = M.length := by omega
            go_wp2_with fail
            refine (awake_ok _).mono ?_
            rintro e w2 ⟨rfl, hb2⟩
            have HB2 := Lib.hid (HP.out.below.trans (hb2.mono hsz2))
            clear hb2
            go_wp2
            go_ret
            exact ⟨rfl, HB2.out⟩
end Go.Proofs.Ytnlidhclieipiaa
