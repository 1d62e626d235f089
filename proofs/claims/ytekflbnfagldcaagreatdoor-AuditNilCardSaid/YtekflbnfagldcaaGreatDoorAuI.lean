/-
  AuditNil: a look at an empty disk.
-/
import Derived.Test.YtekflbnfagldcaaGreatDoorAuH
namespace Go.Proofs.YtekflbnfagldcaaGreatDoor
open Go Ev Go.RowKit

section
variable {g p f : Int} (hg0 : 64 ≤ g) (hg1 : g ≤ 1024) (hp0 : 1 ≤ p) (hp1 : p ≤ 64) (hf0 : 1 ≤ f) (hf1 : f ≤ 64) {ρ : Ren}
include hg0 hg1 hp0 hp1 hf0 hf1
set_option maxRecDepth 100000
set_option maxHeartbeats 8000000 in
theorem look_ran (b0 o0 : Nat) (w : World) (hw : AuAt g p f auB0 100 ρ w) (hd : VR ρ (envOf (auSyms g p f [])) (.pointer (some ⟨19, 0, none⟩)) (.pointer (some ⟨b0, o0, none⟩))) :
    Ran Tryz.prog 4 #[.pointer (some ⟨b0, o0, none⟩), .agg #[.int .i64 g, .int .i64 p, .int .i64 f]] w fun v w' => v = (.tuple #[.agg #[.int .i64 0, .int .i64 1, .int .i64 0, .int .i64 0, .int .i64 0, .int .i64 0, .slice none 0 0], .int .i64 0]) ∧ AuAt g p f auB0 100 ρ w' ∧ Upd (InCore auB0 ρ) w w' := by
  have HD := Lib.hid hd
  have HW := Lib.hid hw
  clear hd hw
  have HWa := Lib.hid (CoreAt.alloc (CoreAt.alloc HW.out low0 (.cells #[.int .i64 g, .int .i64 p, .int .i64 f] 23)) low0 (.cells #[.int .i64 0, .int .i64 0, .int .i64 0, .int .i64 0, .int .i64 0, .int .i64 0, .slice none 0 0] 26))
  have HS := Lib.hid ((Blk.new w 23 #[.int .i64 g, .int .i64 p, .int .i64 f]).alloc (.cells #[.int .i64 0, .int .i64 0, .int .i64 0, .int .i64 0, .int .i64 0, .int .i64 0, .slice none 0 0] 26))
  have HR := Lib.hid (Blk.new (w.alloc (.cells #[.int .i64 g, .int .i64 p, .int .i64 f] 23)) 26 #[.int .i64 0, .int .i64 0, .int .i64 0, .int .i64 0, .int .i64 0, .int .i64 0, .slice none 0 0])
  have HUa := Lib.hid (((Upd.refl (InCore auB0 ρ) w).alloc (.cells #[.int .i64 g, .int .i64 p, .int .i64 f] 23)).alloc (.cells #[.int .i64 0, .int .i64 0, .int .i64 0, .int .i64 0, .int .i64 0, .int .i64 0, .slice none 0 0] 26))
  have HNR : Hid (¬ InCore auB0 ρ (w.alloc (.cells #[.int .i64 g, .int .i64 p, .int .i64 f] 23)).heap.size) := Lib.hid fun h => absurd ((CoreAt.alloc HW.out low0 _).lt self0 low0 h) (Nat.lt_irrefl _)
  have HLR : Hid (w.heap.size < (w.alloc (.cells #[.int .i64 g, .int .i64 p, .int .i64 f] 23)).heap.size) := Lib.hid (Blk.new w 23 #[.int .i64 g, .int .i64 p, .int .i64 f]).lt
  have cS := HS.out.cell
  refine ran_of_wp fns0 (fn := Tryz.f4) (by kernel_rfl) rfl ?_
  simp only [Tryz.ntmps4, List.size_toArray, List.length_cons, List.length_nil, Nat.reduceAdd, Nat.reduceSub, Array.replicate_succ, Array.replicate_zero, List.push_toArray, List.append_toArray, List.nil_append, List.cons_append]
  go_wp2_with fail
  refine (begin_ok hg0 hg1 hp0 hp1 hf0 hf1 b0 o0 _ HWa.out HD.out).mono ?_
  rintro e w1 ⟨bx, rfl, hB⟩
  have HB := Lib.hid hB
  clear hB cS
  go_upto_region 4 with (fail)
  obtain ⟨ρ', b4, o4, b6, o6, B, w0, pg, tn, hP, hvd, hvl, hcut, hbx, hB1, hB2, hcc, hu⟩ := HB.out
  have hpn : ((p.toNat : Nat) : Int) = p := Int.toNat_of_nonneg (by omega)
  have ll := Blk.cell hP.blk 4
  have HS1 := Lib.hid (St.begin hP hB2)
  have HVD := Lib.hid hvd
  have HVL := Lib.hid hvl
  have HCUT := Lib.hid hcut
  have HCC := Lib.hid hcc
  have HU1 := Lib.hid hu
  have HPN := Lib.hid hpn
  clear hP hvd hvl hcut hcc hu HB hbx hB1 hB2 hpn
  go_cut [8] (Met6 g p f ρ' bx b4 o4 b6 o6 B p.toNat pg tn w0 w1)
  case first =>
    go_region_held3 (fun w' => w'.cell? ⟨bx, 4, none⟩ = some (.pointer (some ⟨b6, o6, none⟩))) (first | with_reducible exact ll | go_keep | (repeat (refine keep_far ?_ hnb)); with_reducible exact ll)
      (first
        | (go_at_call 11
           refine (St.inc HVL.out HS1.out ?uu1).mono ?_
           case uu1 => first | with_reducible exact (Upd.refl _ _).drew | with_reducible exact ((Upd.refl _ _).alloc _).drew | with_reducible exact (Upd.refl _ _).drew.alloc _
           rintro e w2 ⟨rfl, hs, hu⟩
           clear ll
           have ll := Blk.cell hs.look.blk 4
           have HS2 := Lib.hid hs
           first | (have hf := HF.out.next hu; clear HF; have HF := Lib.hid hf; clear hf) | (have hf := Fr.next (St.fresh (cs := #[.int .i64 0, .int .i64 0, .int .i64 0, .int .i64 0, .int .i64 0, .int .i64 0, .slice none 0 0]) HS1.out).drew hu; have HF := Lib.hid hf; clear hf) | skip
           clear hs hu)
        | (go_at_call 12
           refine (St.fst HVL.out HS2.out ?uu2).mono ?_
           case uu2 => first | with_reducible exact Upd.refl _ _ | with_reducible exact (Upd.refl _ _).alloc _
           rintro e w3 ⟨rfl, hs, hu⟩
           clear ll
           have ll := Blk.cell hs.look.blk 4
           have HS3 := Lib.hid hs
           first | (have hf := HF.out.next hu; clear HF; have HF := Lib.hid hf; clear hf) | (have hf := Fr.next (St.fresh (cs := #[.int .i64 0, .int .i64 0, .int .i64 0, .int .i64 0, .int .i64 0, .int .i64 0, .slice none 0 0]) HS2.out) hu; have HF := Lib.hid hf; clear hf) | skip
           clear hs hu)
        | (go_at_call 13
           refine (St.last HVL.out HS3.out ?uu3).mono ?_
           case uu3 => first | with_reducible exact Upd.refl _ _ | with_reducible exact (Upd.refl _ _).alloc _
           rintro e w4 ⟨rfl, hs, hu⟩
           clear ll
           have ll := Blk.cell hs.look.blk 4
           have HS4 := Lib.hid hs
           first | (have hf := HF.out.next hu; clear HF; have HF := Lib.hid hf; clear hf) | (have hf := Fr.next (St.fresh (cs := #[.int .i64 0, .int .i64 0, .int .i64 0, .int .i64 0, .int .i64 0, .int .i64 0, .slice none 0 0]) HS3.out) hu; have HF := Lib.hid hf; clear hf) | skip
           clear hs hu)
        | (go_at_call 14
           refine (St.check HVL.out HS4.out ?uu4).mono ?_
           case uu4 => first | with_reducible exact Upd.refl _ _ | with_reducible exact (Upd.refl _ _).alloc _
           rintro e w5 ⟨rfl, hs, hu⟩
           clear ll
           have ll := Blk.cell hs.look.blk 4
           have HS5 := Lib.hid hs
           first | (have hf := HF.out.next hu; clear HF; have HF := Lib.hid hf; clear hf) | (have hf := Fr.next (St.fresh (cs := #[.int .i64 0, .int .i64 0, .int .i64 0, .int .i64 0, .int .i64 0, .int .i64 0, .slice none 0 0]) HS4.out) hu; have HF := Lib.hid hf; clear hf) | skip
           clear hs hu)
        | (go_at_call 15
           refine (St.torn HS5.out ?uu5 hg0 hg1 hp0 hp1 HVD.out).mono ?_
           case uu5 => first | with_reducible exact Upd.refl _ _ | with_reducible exact (Upd.refl _ _).alloc _
           rintro e w6 ⟨rfl, hs, hu⟩
           clear ll
           have ll := Blk.cell hs.look.blk 4
           have HS6 := Lib.hid hs
           first | (have hf := HF.out.next hu; clear HF; have HF := Lib.hid hf; clear hf) | (have hf := Fr.next (St.fresh (cs := #[.int .i64 0, .int .i64 0, .int .i64 0, .int .i64 0, .int .i64 0, .int .i64 0, .slice none 0 0]) HS5.out) hu; have HF := Lib.hid hf; clear hf) | skip
           clear hs hu)
        | (go_at_call 16
           refine (St.wrong HVL.out HS6.out ?uu6 hp0 hp1 HPN.out).mono ?_
           case uu6 => first | with_reducible exact Upd.refl _ _ | with_reducible exact (Upd.refl _ _).alloc _
           rintro e w7 ⟨rfl, hs, hu⟩
           clear ll
           have ll := Blk.cell hs.look.blk 4
           have HS7 := Lib.hid hs
           first | (have hf := HF.out.next hu; clear HF; have HF := Lib.hid hf; clear hf) | (have hf := Fr.next (St.fresh (cs := #[.int .i64 0, .int .i64 0, .int .i64 0, .int .i64 0, .int .i64 0, .int .i64 0, .slice none 0 0]) HS6.out) hu; have HF := Lib.hid hf; clear hf) | skip
           clear hs hu; try (have cf := HF.out.blk.cell; have ff := HF.out.blk.frozen; have hnb := HS7.out.ne HF.out)))
    all_goals
      go_wp2_with fail
      go_meet
      first
        | with_reducible exact HS7.out.met_old HF.out
        | with_reducible exact HS7.out.met_new
        | trace_state
  case rest =>
    obtain ⟨nb, rfl, hst, hfr⟩ := hcut
    obtain ⟨G, c, rfl, htn⟩ := hst.look.turns (by have := HPN.out; omega)
    have HRB : Hid (¬ InCore auB2 ρ' (w.alloc (.cells #[.int .i64 g, .int .i64 p, .int .i64 f] 23)).heap.size) := Lib.hid fun hk => HNR.out (HCC.out _ HR.out.lt hk)
    have hr := (HR.out.upd HU1.out HNR.out).upd hst.upd HRB.out
    rw [World.size_alloc] at hr
    have cr := hr.cell
    have fr := hr.frozen
    have cn := hfr.blk.cell
    have cb := Blk.cell hst.look.blk
    have HST := Lib.hid hst
    have HRR := Lib.hid hr
    clear hst hfr hr
    go_wp2_with fail
    have HTN := Lib.hid htn
    clear htn
    go_loopw [52] (fun i wr => ∃ k : Nat, k ≤ p.toNat ∧ i = .int .i64 k ∧ wr = wc) (fun i _ => p.toNat - (intOf i).toNat)
    case atStart => exact ⟨0, by omega, rfl, rfl⟩
    case round =>
      obtain ⟨k, hk, rfl, rfl⟩ := hrel
      by_cases hlt : k < p.toNat
      · have hti := HTN.out k hlt
        have hi : (k : Int) < (p.toNat : Nat) := by omega
        go_wp2_with fail
        go_roundw
        case rel => exact ⟨k + 1, by omega, by go_num, by trivial⟩
        case measure => simp [intOf]; omega
      · have e : ¬ (k : Int) < (p.toNat : Nat) := by omega
        go_wp2_with fail
        have hrb : ¬ InCore auB2 ρ' (w.heap.size + 1) := by have := HRB.out; rwa [World.size_alloc] at this
        have hcore := fun (wz : World) (hz : Upd (fun k => k = w.heap.size + 1) _ wz) => ((CoreAt.upd HST.out.look.core low2 hz (fun b _ hc he => hrb (he ▸ hc))).back HCUT.out selfB low0 HW.out.fx HW.out.fresh (by omega) (by omega))
        have hupd := fun (wz : World) (hz : Upd (fun k => k = w.heap.size + 1) _ wz) => ((HUa.out.trans HU1.out fun _ _ h => h).trans HST.out.upd fun k hk hc => HCC.out k (Nat.lt_of_lt_of_le hk HUa.out.size) hc).trans hz fun k hk (he : k = w.heap.size + 1) => absurd hk (by omega)
        have HCO := Lib.hid hcore
        have HUP := Lib.hid hupd
        clear hcore hupd
        refine bodyPost_ret (res_cell (p := 4) (u := 5) rfl rfl (((((((HRR.out.set_ 0 _).set_ 1 _).set_ 2 _).set_ 3 _).set_ 4 _).set_ 5 _).set_ 6 _) rfl) rfl ?_
        exact ⟨_, rfl, rfl, HCO.out _ (set1 (set1 (set1 (set1 (set1 (set1 (set1 (Upd.refl _ _) 0 _) 1 _) 2 _) 3 _) 4 _) 5 _) 6 _), HUP.out _ (set1 (set1 (set1 (set1 (set1 (set1 (set1 (Upd.refl _ _) 0 _) 1 _) 2 _) 3 _) 4 _) 5 _) 6 _)⟩
end
end Go.Proofs.YtekflbnfagldcaaGreatDoor
