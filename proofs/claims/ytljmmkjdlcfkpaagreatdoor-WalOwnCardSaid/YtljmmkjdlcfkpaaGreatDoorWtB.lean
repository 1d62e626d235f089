/-
  WalOwn: the law, walked for a record in memory.
-/
import Derived.Test.YtljmmkjdlcfkpaaGreatDoorWtA
import Derived.Test.YtljmmkjdlcfkpaaGreatDoorWtC
import Derived.Test.YtljmmkjdlcfkpaaGreatDoorWsG
import Derived.Test.YtljmmkjdlcfkpaaGreatDoorWsB
import Derived.Test.YtljmmkjdlcfkpaaGreatDoorWsE
import Derived.Test.YtljmmkjdlcfkpaaGreatDoorWqI
namespace Go.Proofs.YtljmmkjdlcfkpaaGreatDoor
open Go Go.RowKit

theorem enc_len_le (x : RecP) : x.enc.1.length ≤ 4096 := by
  unfold RecP.enc
  split
  · simp
  · split
    · simp
    · simp only; omega
theorem enc_dec (x : RecP) (h : x.enc.2 = 0) : x.enc.1 = x.bytes ∧ DecTo x.bytes x := by
  have hl := enc_len_le x
  unfold RecP.enc at h hl ⊢
  split
  · rename_i h1; rw [if_pos h1] at h; cases h
  · rename_i h1
    rw [if_neg h1] at h hl
    split
    · rename_i h2; rw [if_pos h2] at h; cases h
    · rename_i h2
      exact ⟨rfl, fun w v hv => dec_ok x (by simpa using h1) (by omega) w v hv⟩
theorem DecTo.any {b : Bs} {x : RecP} (h : DecTo b x) : DecAny b := fun w v hv => (h w v hv).mono fun e w' h => by
  obtain ⟨s, he, _, hU⟩ := h
  exact ⟨_, _, he, hU⟩
/-- A log's changes leave a record's lists alone. -/
theorem RecN.logs {bz B : Nat} {w w' : World} {x : RecP} {s : Sls} (h : RecN B w x s) (hu : Upd (LogF bz w) w w') : RecN B w' x s := by
  obtain ⟨rs, a1, a2, a3⟩ := h.row
  obtain ⟨ds, b1, b2, b3⟩ := h.dee
  exact ⟨h.mem.logs (fun _ _ => rfl) hu, h.loc.logs (fun _ _ => rfl) hu, ⟨rs, a1.logs (fun _ _ => rfl) hu, a2, fun q hq => ⟨(a3 q hq).1.logs (fun _ _ => rfl) hu, (a3 q hq).2.logs (fun _ _ => rfl) hu⟩⟩, h.dir.logs (fun _ _ => rfl) hu, ⟨ds, b1.logs (fun _ _ => rfl) hu, b2, fun q hq => (b3 q hq).logs (fun _ _ => rfl) hu⟩, h.pas.logs (fun _ _ => rfl) hu⟩
theorem rec_noLog {bz : Nat} {w : World} {g : Nat} {cs : Array Value} (h : Blk w g 38 cs) : ¬ LogF bz w g := by
  rintro ⟨_, o, h1, h2⟩
  unfold Blk at h
  rw [h] at h1
  injection h1 with h1
  subst h1
  rw [show logTy (.cells cs 38 (0, 0)) = false from rfl] at h2
  cases h2
theorem rec_noScr {B : Nat} {w : World} {g : Nat} {cs : Array Value} (h : Blk w g 38 cs) : ¬ ScrF B w g := by
  rintro ⟨_, cs', t, h1, h2⟩
  unfold Blk at h
  rw [h] at h1
  injection h1 with h1
  injection h1 with _ h1 _
  rcases h2 with rfl | rfl | rfl <;> exact absurd h1 (by decide)
theorem Blk.rng {w : World} {g : Nat} {t : TypeId} {cs : List Value} (h : Blk w g t cs.toArray) : w.rangeAt g 0 cs := fun j v hv => by
  rw [Nat.zero_add, h.cell j, List.getElem?_toArray]
  exact hv
theorem wpList_load_midw {P : Program} {ops : Array Oper} {rest : List Oper} {op : Oper} {a : Act} {w : World} {Q : Exit → Act → World → Prop} (hw : Region.wanted op (yielded ops a.tmps) = true) (ty : TypeId) (x : Operand) (ho : op.op = .load ty x)
    (b o : Nat) (hx : a.eval x = .pointer (some ⟨b, o, none⟩)) (cs : List Value) (d : TypeDesc) (hc : w.rangeAt b o cs)
    (hu : P.underlying ty = some d) (hd : d.isRow = true) (hi : (P.info? ty).map (·.size) = some cs.length)
    (h : wpList P ops Q rest (a.put op.dst (.agg cs.toArray)) w) : wpList P ops Q (op :: rest) a w :=
  wpList_step fun K hK => by rw [if_pos hw]; exact wp_load_mid ty x ho b o hx cs d hc hu hd hi (hK _ _ h)
set_option maxRecDepth 100000 in
set_option maxHeartbeats 8000000 in
theorem walOwn_walk (x : RecP) (s : Sls) {w : World} (hE : RecE w x s) (hW : HalfW w) (hw0 : 0 < w.heap.size) :
    Calls Tryz.prog 4 #[.agg (x.rv s).cells.toArray] w fun e w' => e = .returned (.bool true) ∧ Below w.heap.size w w' := by
  obtain ⟨c, hc⟩ : ∃ c : List Value, (x.rv s).cells = c := ⟨_, rfl⟩
  have hl16 : c.length = 16 := by rw [← hc]; rfl
  have hU0 := (Upd.refl Nowhere w).alloc (.cells c.toArray 38)
  have hBx := Blk.new w 38 c.toArray
  have hG := great_ok x s _ (hE.up hU0)
  rw [hc] at hG
  rw [hc]
  have HCS := Lib.hid hc
  have HISc : Hid ((Tryz.prog.info? 38).map (·.size) = some c.length) := Lib.hid (by rw [hl16]; exact rec_size)
  have HG := Lib.hid hG
  have HE := Lib.hid hE
  have HW := Lib.hid hW
  have HW0 := Lib.hid hw0
  have HU0 := Lib.hid hU0
  have HBX := Lib.hid hBx
  have HRC := Lib.hid hBx.rng
  clear hE hW hw0 hG hc hU0 hl16 hBx
  go_enter Tryz.func4, Tryz.ntmps4
  go_wp2_with (first | (refine wpList_load_mid rfl 38 _ rfl w.heap.size 0 rfl c _ HRC.out Tryz.underlying38 rfl HISc.out ?_))
  refine HG.out.mono ?_
  rintro e w1 ⟨b, rfl, hb, hU1⟩
  have HB := Lib.hid hb
  have HBX := Lib.hid (HBX.out.upd hU1 id)
  have HU1 := Lib.hid (HU0.out.same hU1)
  clear hb hU1 HG HU0 HRC
  generalize hBK : w.heap.size = bk at HBX ⊢
  have HBK := Lib.hid hBK
  clear hBK
  cases b with
  | true =>
    have hA := awake_walk (w := w1) (HW.out.upd HU1.out id) (by have := HW0.out; have := HU1.out.size; omega)
    have HA := Lib.hid hA
    clear hA
    go_wp2_with fail
    refine HA.out.mono ?_
    rintro e w2 ⟨rfl, hU2⟩
    have HU2 := Lib.hid (HU1.out.same hU2)
    clear hU2 HA
    go_wp2_with fail
    go_ret
    exact ⟨rfl, HBK.out ▸ HU2.out.toBelow fun _ _ => id⟩
  | false =>
    have htm := HB.out rfl
    have hmd := made_ok (bz := w.heap.size) w1 40 (by omega) (by omega) (HW.out.upd HU1.out id) HW0.out HU1.out.size
    have HTM := Lib.hid htm
    have HMD := Lib.hid hmd
    clear htm hmd HB
    go_wp2_with fail
    refine HMD.out.mono ?_
    rintro e w2 ⟨l, p, rfl, hL2, hU2, hf2, hl2⟩
    have hcp := copy_ok x s w2 (HE.out.up (HU1.out.same hU2)) HTM.out
    rw [HCS.out] at hcp
    have HBX := Lib.hid (HBX.out.upd hU2 id)
    have HRC := Lib.hid HBX.out.rng
    have HL2 := Lib.hid hL2
    have HU2 := Lib.hid (HU1.out.same hU2)
    have HCP := Lib.hid hcp
    clear hL2 hU2 hf2 hl2 hcp HMD
    go_wp2_with (first | (refine wpList_load_mid rfl 38 _ rfl bk 0 rfl c _ HRC.out Tryz.underlying38 rfl HISc.out ?_))
    refine HCP.out.mono ?_
    rintro e w3 ⟨t, rfl, hN3, hU3⟩
    have HBX := Lib.hid (HBX.out.upd hU3 id)
    have HN3 := Lib.hid hN3
    have HU3 := Lib.hid (HU2.out.same hU3)
    have HL3 := Lib.hid (HL2.out.up hU3)
    clear hN3 hU3 HCP HRC HL2 HU1
    obtain ⟨d, hd⟩ : ∃ d : List Value, (x.rv t).cells = d := ⟨_, rfl⟩
    have HDS := Lib.hid hd
    have HONE : Hid (∀ v ∈ d, v.oneCell' = true) := Lib.hid (by rw [← hd]; exact (x.rv t).cells_one)
    have hl16 : d.length = 16 := by rw [← hd]; rfl
    have HISd : Hid ((Tryz.prog.info? 38).map (·.size) = some d.length) := Lib.hid (by rw [hl16]; exact rec_size)
    have hz16 : zeroA.size = d.length := by rw [hl16]; rfl
    unfold zeroA at hz16
    have HZS := Lib.hid hz16
    rw [hd]
    clear hd hl16 hz16
    go_upto_region 5 with (first | (refine wpList_store_new rfl 38 _ _ rfl rfl rfl HISd.out HZS.out HONE.out ?_))
    have HB5 := Lib.hid (Blk.new w3 38 d.toArray)
    have hu := (Upd.refl Nowhere w3).alloc (.cells d.toArray 38)
    generalize w3.alloc (.cells d.toArray 38) = w5 at *
    generalize w3.heap.size = g5 at *
    clear HONE HZS
    have hF : FullS 40 0 (log0 40) := FullS.start 40
    have hni : (log0 40).items = [] := rfl
    generalize log0 40 = S at *
    have hB := hF.bounds (by omega) (by omega) (by omega)
    have HU5 := Lib.hid (HU3.out.same hu)
    have HN5 := Lib.hid (HN3.out.upd hu fun _ _ _ => id)
    have HBX := Lib.hid (HBX.out.upd hu id)
    have HRD := Lib.hid HB5.out.rng
    have happ := append_ok (HL3.out.up hu) hB (by omega) hF.dwn (HW.out.upd HU5.out id) (enc_ok HN5.out.recE HTM.out.mild) (enc_len_le x) (fun h => by rw [(enc_dec x h).1]; exact (enc_dec x h).2.any) 0 (by omega)
    rw [HDS.out] at happ
    have HAP := Lib.hid happ
    have HF := Lib.hid hF
    have HNI := Lib.hid hni
    clear happ hF hni hB hu HN3 HL3 HU3
    go_wp2_with (first | (refine wpList_load_mid rfl 38 _ rfl g5 0 rfl d _ HRD.out Tryz.underlying38 rfl HISd.out ?_))
    refine HAP.out.mono ?_
    rintro e w6 ⟨hbad, _, hyes, hU6⟩
    have hN6 : Upd Nowhere w w6 := HU5.out.trans hU6 fun k hk e => by have := e.1; omega
    have HBX := Lib.hid (HBX.out.upd hU6 (rec_noLog HBX.out))
    have HU6 := Lib.hid hU6
    have HN6 := Lib.hid hN6
    have HBAD := Lib.hid hbad
    have HYES := Lib.hid hyes
    clear hU6 hN6 hbad hyes HAP HRD
    by_cases hx : x.enc.2 = 0
    case neg =>
      obtain ⟨he, _⟩ := HBAD.out hx
      generalize x.enc.2 = ec at he hx
      subst he
      have hx1 : (ec == 0) = false := by rw [beq_eq_false_iff_ne]; exact hx
      have hA := awake_walk (w := w6) (HW.out.upd HN6.out id) (by have := HW0.out; have := HN6.out.size; omega)
      have HA := Lib.hid hA
      clear hA
      go_wp2_with fail
      refine HA.out.mono ?_
      rintro e w7 ⟨rfl, hU7⟩
      have HU7 := Lib.hid (HN6.out.same hU7)
      clear hU7 HA
      go_wp2_with fail
      go_ret
      exact ⟨rfl, HBK.out ▸ HU7.out.toBelow fun _ _ => id⟩
    case pos =>
    have hdc := enc_dec x hx
    obtain ⟨he, hL6⟩ := HYES.out hx (HF.out.roomy1 (by omega) (enc_len_le x))
    have he' : e = .returned (.tuple #[.int .i64 1, .int .i64 0]) := by rw [he, HF.out.mst, HF.out.len]; rfl
    subst he'
    obtain ⟨hBA, _⟩ := HF.out.added1 (by omega) (by omega) (enc_len_le x)
    obtain ⟨S', hfs, hBF, hdF, hmF⟩ := HF.out.force1 (by omega) (by omega) (enc_len_le x)
    have hit : (S.add x.enc.1).items[0]? = some (x.enc.1, 0) := by simp only [LogS.add]; rw [HNI.out]; rfl
    have hdn : (S.add x.enc.1).down = false := HF.out.dwn
    have hmA : (S.add x.enc.1).m = mast2 := HF.out.mst
    obtain ⟨q', hit'⟩ := LogS.force_item _ hit
    have hdto : DecTo x.enc.1 x := by rw [hdc.1]; exact hdc.2
    have HLF := Lib.hid hfs
    generalize S.add x.enc.1 = SA at *
    generalize x.enc.1 = bs at *
    have HDT := Lib.hid hdto
    have HIT := Lib.hid hit
    have HIT' := Lib.hid hit'
    have HBA := Lib.hid hBA
    have HBF := Lib.hid hBF
    have HDA := Lib.hid hdn
    have HDF := Lib.hid hdF
    have HMA := Lib.hid hmA
    have HMF := Lib.hid hmF
    have HL6 := Lib.hid hL6
    have HRD := Lib.hid (HB5.out.upd HU6.out (rec_noLog HB5.out)).rng
    have hsc := scrawl_ok x t w6 (HN5.out.logs HU6.out) (by have := HTM.out.ml; omega) (by have := HTM.out.ll; omega) (by have := HTM.out.rl; omega) (by have := HTM.out.pl; omega)
    rw [HDS.out] at hsc
    have HSC := Lib.hid hsc
    clear hdc he hL6 hBA hfs hBF hdF hmF hit hdn hmA hit' hdto hsc HB5 HBAD HYES HF HNI hx HN5 HU5 HU6 HDS
    go_wp2_with (first | (refine wpList_load_mid rfl 38 _ rfl g5 0 rfl d _ HRD.out Tryz.underlying38 rfl HISd.out ?_))
    refine HSC.out.mono ?_
    rintro e w7 ⟨rfl, hU7⟩
    have hN7 : Upd Nowhere w w7 := HN6.out.trans hU7 fun k hk e => by have := e.1; have := HU2.out.size; omega
    have HBX := Lib.hid (HBX.out.upd hU7 (rec_noScr HBX.out))
    have HL7 := Lib.hid (HL6.out.upd hU7 (fun k e => e.logs) (ScrF.noU8 w6))
    have HN7 := Lib.hid hN7
    have hget := wget_ok HL7.out HBA.out (by omega) HDA.out HIT.out HDT.out (lsn := 1) (by rw [HMA.out]; rfl)
    have HGT := Lib.hid hget
    clear hU7 hN7 hget HSC HL6 HN6 HRD HISd
    go_wp2_with fail
    refine HGT.out.mono ?_
    rintro e w8 ⟨t2, rfl, hN8, hU8⟩
    have HN8 := Lib.hid hN8
    have HU8 := Lib.hid hU8
    clear hN8 hU8 HGT HIT HMA
    obtain ⟨y, hd⟩ : ∃ y : List Value, (x.rv t2).cells = y := ⟨_, rfl⟩
    have HDS := Lib.hid hd
    have HONE : Hid (∀ v ∈ y, v.oneCell' = true) := Lib.hid (by rw [← hd]; exact (x.rv t2).cells_one)
    have hl16 : y.length = 16 := by rw [← hd]; rfl
    have HISy : Hid ((Tryz.prog.info? 38).map (·.size) = some y.length) := Lib.hid (by rw [hl16]; exact rec_size)
    have hz16 : zeroA.size = y.length := by rw [hl16]; rfl
    unfold zeroA at hz16
    have HZS := Lib.hid hz16
    rw [hd]
    clear hd hl16 hz16
    go_upto_region 10 with (first | (refine wpList_store_new rfl 38 _ _ rfl rfl rfl HISy.out HZS.out HONE.out ?_))
    have HB10 := Lib.hid (Blk.new w8 38 y.toArray)
    have hu := (Upd.refl Nowhere w8).alloc (.cells y.toArray 38)
    generalize w8.alloc (.cells y.toArray 38) = w10 at *
    generalize w8.heap.size = g10 at *
    clear HONE HZS
    have HU10 := Lib.hid (HU8.out.same hu)
    have HN10 := Lib.hid (HN8.out.upd hu fun _ _ _ => id)
    have HL10 := Lib.hid (HL7.out.up HU10.out)
    have HBX := Lib.hid (HBX.out.upd HU10.out id)
    have HM10 := Lib.hid (HN7.out.same HU10.out)
    have HRD := Lib.hid HB10.out.rng
    have hsc := scrawl_ok x t2 w10 HN10.out (by have := HTM.out.ml; omega) (by have := HTM.out.ll; omega) (by have := HTM.out.rl; omega) (by have := HTM.out.pl; omega)
    rw [HDS.out] at hsc
    have HSC := Lib.hid hsc
    clear hsc hu HN8 HU8 HL7 HB10 HDS HN10 HU10
    go_wp2_with (first | (refine wpList_load_mid rfl 38 _ rfl g10 0 rfl y _ HRD.out Tryz.underlying38 rfl HISy.out ?_))
    refine HSC.out.mono ?_
    rintro e w11 ⟨rfl, hU11⟩
    have hN11 : Upd Nowhere w w11 := HM10.out.trans hU11 fun k hk e => by have := e.1; have := HN7.out.size; omega
    have HBX := Lib.hid (HBX.out.upd hU11 (rec_noScr HBX.out))
    have hL11 := HL10.out.upd hU11 (fun k e => e.logs) (ScrF.noU8 w10)
    have hfc := force_ok hL11 HBA.out (by omega) HDA.out (HW.out.upd hN11 id) (HBA.out.sheets_good (by omega)) (by rw [HBA.out.find_len, placesB_len]) HBA.out.find_le
    have hit' := HIT'.out
    rw [HLF.out] at hfc hit'
    have HFC := Lib.hid hfc
    have HIT := Lib.hid hit'
    have HN11 := Lib.hid hN11
    clear hU11 hN11 hL11 hfc hit' HSC HL10 HM10 HN7 HIT' HLF HBA HDA HRD HISy
    go_wp2_with fail
    refine HFC.out.mono ?_
    rintro e w12 ⟨p4, _, rfl, hL12, hU12⟩
    have hN12 : Upd Nowhere w w12 := HN11.out.trans hU12 fun k hk e => by have := e.1; omega
    have HBX := Lib.hid (HBX.out.upd hU12 (rec_noLog HBX.out))
    have hget := wget_ok hL12 HBF.out (by omega) HDF.out HIT.out HDT.out (lsn := 1) (by rw [HMF.out]; rfl)
    have HGT := Lib.hid hget
    have HN12 := Lib.hid hN12
    clear hget hL12 hU12 hN12 HFC HN11 HIT HBF HDF HMF HDT
    go_wp2_with fail
    refine HGT.out.mono ?_
    rintro e w13 ⟨t3, rfl, hN13, hU13⟩
    have HN13 := Lib.hid hN13
    have HU13 := Lib.hid hU13
    clear hN13 hU13 HGT
    obtain ⟨z, hd⟩ : ∃ z : List Value, (x.rv t3).cells = z := ⟨_, rfl⟩
    have HDS := Lib.hid hd
    have HONE : Hid (∀ v ∈ z, v.oneCell' = true) := Lib.hid (by rw [← hd]; exact (x.rv t3).cells_one)
    have hl16 : z.length = 16 := by rw [← hd]; rfl
    have HISz : Hid ((Tryz.prog.info? 38).map (·.size) = some z.length) := Lib.hid (by rw [hl16]; exact rec_size)
    have hz16 : zeroA.size = z.length := by rw [hl16]; rfl
    unfold zeroA at hz16
    have HZS := Lib.hid hz16
    rw [hd]
    clear hd hl16 hz16
    go_upto_region 13 with (first | (refine wpList_store_new rfl 38 _ _ rfl rfl rfl HISz.out HZS.out HONE.out ?_))
    have HB15 := Lib.hid (Blk.new w13 38 z.toArray)
    have hu := (Upd.refl Nowhere w13).alloc (.cells z.toArray 38)
    generalize w13.alloc (.cells z.toArray 38) = w15 at *
    generalize w13.heap.size = g15 at *
    clear HONE HZS
    have HU15 := Lib.hid (HN12.out.same (HU13.out.same hu))
    have HRC := Lib.hid (HBX.out.upd (HU13.out.same hu) id).rng
    have HRD := Lib.hid HB15.out.rng
    have hse := same_eq (HN13.out.upd hu fun _ _ _ => id).recE (HE.out.up HU15.out) HTM.out.mild
    rw [HDS.out, HCS.out] at hse
    have HSE := Lib.hid hse
    clear hu hse HN13 HU13 HB15 HDS HCS HBX HN12
    go_wp2_with (first | (refine wpList_load_midw rfl 38 _ rfl g15 0 rfl z _ HRD.out Tryz.underlying38 rfl HISz.out ?_) | (refine wpList_load_midw rfl 38 _ rfl bk 0 rfl c _ HRC.out Tryz.underlying38 rfl HISc.out ?_))
    refine HSE.out.mono ?_
    rintro e w16 ⟨rfl, hU16⟩
    have HU16 := Lib.hid (HU15.out.same hU16)
    have hA := awake_walk (w := w16) (HW.out.upd HU16.out id) (by have := HW0.out; have := HU16.out.size; omega)
    have HA := Lib.hid hA
    clear hU16 hA HSE HRC HRD
    go_wp2_with fail
    refine HA.out.mono ?_
    rintro e w17 ⟨rfl, hU17⟩
    have HU17 := Lib.hid (HU16.out.same hU17)
    clear hU17 HA
    go_wp2_with fail
    go_ret
    exact ⟨rfl, HBK.out ▸ HU17.out.toBelow fun _ _ => id⟩
end Go.Proofs.YtljmmkjdlcfkpaaGreatDoor
