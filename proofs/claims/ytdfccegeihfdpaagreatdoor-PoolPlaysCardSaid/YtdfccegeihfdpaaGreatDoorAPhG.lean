/-
  PoolPlays: the law, walked.
-/
import Derived.Test.YtdfccegeihfdpaaGreatDoorAPhE
set_option maxRecDepth 100000
set_option maxHeartbeats 16000000
namespace Go.Proofs.YtdfccegeihfdpaaGreatDoor
open Go Go.RowKit
theorem held_takeL{P:Program}{l:List Oper}{Q:Exit→Act→World→Prop}{md:Region.Mode}{S:World→Prop}(i:Nat){oi:Oper}{v:Value}{fuel:Nat}{listed:Array Bool}{a:Act}{w:World}(hi:l[i]? =some oi)(hQ:∀c a w,Q (.panic c) (a.put oi.dst v) w→Q (.panic c) a w)(hy:∀w,S w→(execOp a.eval oi).run P w= .ok (.value v) w)(h:wpAnyH P md l.toArray Q S fuel (listed.setIfInBounds i true) (a.put oi.dst v) w)(hS:S w)
 (hs:Region.noSelect l.toArray=true:=by kernel_rfl) (hf:Region.free md l.toArray listed i=true:=by kernel_rfl) (hr:(Region.ready md l.toArray listed).contains i=true:=by kernel_rfl) (hw:Region.wanted oi (yielded l.toArray a.tmps)=true:=by rfl):wpAnyH P md l.toArray Q S (fuel+1) listed a w:=
 wpAnyH_take ((qA ..).trans hi) hs hf hr hQ (Or.inl ⟨hw,hy⟩) hS h
theorem poolPlays_in(pages frames:Int){w:World}{A0:Option Addr}{N c0:Nat}{L:List CaV}(hE:Els 5 CaV.cells w (.slice A0 N c0) L)(hN:L.length=N)(hW:HalfW w)(hz:0<w.heap.size):
 Calls Tryz.prog 7 #[.int .i64 pages,.int .i64 frames,.slice A0 N c0] w fun e w'=>e= .returned (.bool true)∧Upd (fun k=>w.heap.size≤k) w w':=by
 have HR:=qh (pright_ok pages frames hE hN);have HE:=qh hE;have HN:=qh hN;have HW:=qh hW;have HZ:=qh hz;clear hE hN hW hz;go_enter Tryz.func7,Tryz.ntmps7
 go_wp2_with fail
 refine HR.out.mono ?_;rintro e w0 ⟨b,rfl,hb,hu0⟩;have HU0:Hid (Upd (fun k=>w.heap.size≤k) w w0):=qh hu0.any
 have HUP:Hid (Upd Nowhere w w0):=qh hu0;have HW0:=qh (HW.out.upd hu0 id);have HZ0:Hid (0<w0.heap.size):=qh (Nat.lt_of_lt_of_le HZ.out hu0.size);have HLE:Hid (w.heap.size≤w0.heap.size):=qh hu0.size;clear hu0 HR
 cases b with
 | false=>
   clear hb;go_wp2_with fail
   refine(awake_ok HW0.out HZ0.out).mono ?_;rintro e w9 ⟨rfl,hu9⟩;have HU9:Hid (Upd (fun k=>w.heap.size≤k) w w9):=qh (HU0.out.same (hu9.mono fun _ _ e=>Nat.le_trans HLE.out e))
   clear hu9;go_wp2_with fail
   go_ret;exact⟨rfl,HU9.out⟩
 | true=>
   obtain⟨hpg,hfr,hlen,hok⟩:=hb rfl;clear hb;obtain⟨pg,rfl⟩:∃n:Nat,pages=(n:Nat):=⟨pages.toNat,by omega⟩
   obtain⟨fr,rfl⟩:∃n:Nat,frames=(n:Nat):=⟨frames.toNat,by omega⟩
   have hb:=begun_ok w0 HW0.out HZ0.out pg fr (by omega) (by omega) (by omega) (by omega)
   have HB:=qh hb;have HPG:Hid (1≤pg∧pg≤20):=qh ⟨by omega,by omega⟩
   have HFR:Hid (1≤fr∧fr≤20):=qh ⟨by omega,by omega⟩
   have HOK:=qh hok;have HLEN:Hid (N≤100):=qh (by have:=HN.out;omega)
   have hpgI:(pg:Int)≤20:=by omega
   clear hb hpg hfr hlen hok;go_wp2_with fail
   refine HB.out.mono ?_;rintro e w1 ⟨x,rfl,hbeg⟩;obtain⟨P,l,q,d,hk1⟩:=KB.start HW0.out HPG.out HFR.out HUP.out hbeg;have HK1:=qh hk1;clear hbeg hk1 HB;go_wp2_with fail
   go_loopw [8] (fun s8 wr=>∃i:Nat,s8= .int .i64 (i:Int)∧i≤N∧KB w w0 P l d pg fr x q (4 * i) wr) (fun s8 _=>N - (intOf s8).toNat)
   case atStart=>exact⟨0,rfl,Nat.zero_le _,HK1.out⟩
   case round=>
    obtain⟨i,rfl,hi,hK⟩:=hrel;have HK:=qh hK;by_cases hlt:i<N
    ·obtain⟨⟨kind,n,key,vh,vd⟩,hx⟩:∃y,L[i]? =some y:=⟨_,qeg (by rw[HN.out];exact hlt)⟩
     have hE2:=HE.out.newer hK.upd fun k hk e=>by omega
     obtain⟨b,off,rfl,hbl,r0,r1,r2,r3,r4⟩:=CaV.get hE2 hx;have hco:=HOK.out _ (qmg hx);unfold CaV.ok at hco;simp only at r0 r1 r2 r3 r4 hco;have hiI:(i:Int)<(N:Int):=by omega
     have hNI:(N:Int)≤100:=by have:=HLEN.out;omega
     have HDO:Hid (Calls Tryz.prog 31 #[.pointer (some ⟨x,0,none⟩),.agg #[.int .i64 kind,.int .i64 n,strV key,.bool vh,strV vd]] wr.drew fun e w'=>e= .returned (.bool true)∧KB w w0 P l d pg fr x q (4 * i+4) w'):=qh ((hK.up (Upd.refl Nowhere wr).drew).does (kind:=kind) (n:=n) (by omega) hco)
     have s0:wr.drew.cell? ⟨b,off+i * 5,none⟩=some (.int .i64 kind):=r0;have s1:wr.drew.cell? ⟨b,off+i * 5+1,none⟩=some (.int .i64 n):=r1;have s2:wr.drew.cell? ⟨b,off+i * 5+2,none⟩=some (strV key):=r2;have s3:wr.drew.cell? ⟨b,off+i * 5+3,none⟩=some (.bool vh):=r3;have s4:wr.drew.cell? ⟨b,off+i * 5+4,none⟩=some (strV vd):=r4;clear hK hE2 hx hco;go_wp2_with fail
     refine wp_region_held_drew (S:=fun _=>True) (by kernel_rfl) trivial (fun hHeld=> ?_)
     refine held_takeL (v:= ?_) 0 rfl (fun _ _ _ h=>h) ?_ ?_ hHeld
     rotate_left
     focus ((intro w hSw;(try dsimp only at hSw);go_simp)<;>with_reducible rfl)
     try simp only[Act.put,qsA,qsZ,qsS]
     refine held_takeL (v:= ?_) 1 rfl (fun _ _ _ h=>h) ?_ ?_ hHeld
     rotate_left
     focus ((intro w hSw;(try dsimp only at hSw);go_simp)<;>with_reducible rfl)
     try simp only[Act.put,qsA,qsZ,qsS]
     refine held_takeL (v:= ?_) 2 rfl (fun _ _ _ h=>h) ?_ ?_ hHeld
     rotate_left
     focus ((intro w hSw;(try dsimp only at hSw);go_simp)<;>with_reducible rfl)
     try simp only[Act.put,qsA,qsZ,qsS]
     refine held_takeL (v:= ?_) 3 rfl (fun _ _ _ h=>h) ?_ ?_ hHeld
     rotate_left
     focus ((intro w hSw;(try dsimp only at hSw);go_simp)<;>with_reducible rfl)
     try simp only[Act.put,qsA,qsZ,qsS]
     refine held_one 4 (fun K hK=> ?_)
     go_simp
     refine hK.out _ _ (trivial) (fun hHeld=> ?_)
     clear hK K
     try simp only[Act.put,qsA,qsZ,qsS]
     refine held_one 5 (fun K hK=> ?_)
     go_simp
     go_at_call 31
     refine(HDO.out).mono ?_;rintro e w2 ⟨rfl,hK2⟩;have HK2:=qh hK2;obtain⟨fo,L2,hL20,hLc,hSS,hpF,hrF,hpD,hrD,hFo⟩:=hK2.tells (by omega)
     have HL20:=qh hL20;have HLC:=qh hLc;have HSS:=qh hSS;have HPF:=qh hpF;have HRF:=qh hrF;have HPD:=qh hpD;have HRD:=qh hrD;have HFO:=qh hFo;clear hK2 hL20 hLc hSS hpF hrF hpD hrD hFo HDO r0 r1 r2 r3 r4;go_wp2_with fail
     refine hK.out _ _ (trivial) (fun hHeld=> ?_)
     clear hK K
     try simp only[Act.put,qsA,qsZ,qsS]
     refine held_weaken (S':=fun w'=>w'.cell? ⟨x,1,none⟩=some (.pointer (some ⟨l,0,none⟩))∧w'.cell? ⟨x,2,none⟩=some (.pointer (some ⟨P,0,none⟩))∧w'.cell? ⟨x,3,none⟩=some (.pointer (some ⟨q,0,none⟩))∧w'.cell? ⟨q,5,none⟩=some (.int .i64 (fo:Nat))) (fun _ _=>trivial) _ _ _ _ ?_
     have k2:=HSS.out w2 (Upd.refl _ _);refine held_takeL (v:= ?_) 6 rfl (fun _ _ _ h=>h) ?_ ?_ k2
     rotate_left
     focus ((intro w hSw;(try dsimp only at hSw);go_simp)<;>with_reducible rfl)
     try simp only[Act.put,qsA,qsZ,qsS]
     refine held_takeL (v:= ?_) 7 rfl (fun _ _ _ h=>h) ?_ ?_ k2
     rotate_left
     focus ((intro w hSw;(try dsimp only at hSw);go_simp)<;>with_reducible rfl)
     try simp only[Act.put,qsA,qsZ,qsS]
     refine held_takeL (v:= ?_) 8 rfl (fun _ _ _ h=>h) ?_ ?_ k2
     rotate_left
     focus ((intro w hSw;(try dsimp only at hSw);go_simp)<;>with_reducible rfl)
     try simp only[Act.put,qsA,qsZ,qsS]
     refine held_takeL (v:= ?_) 9 rfl (fun _ _ _ h=>h) ?_ ?_ k2
     rotate_left
     focus ((intro w hSw;(try dsimp only at hSw);go_simp)<;>with_reducible rfl)
     try simp only[Act.put,qsA,qsZ,qsS]
     refine held_takeL (v:= ?_) 10 rfl (fun _ _ _ h=>h) ?_ ?_ k2
     rotate_left
     focus ((intro w hSw;(try dsimp only at hSw);go_simp)<;>with_reducible rfl)
     try simp only[Act.put,qsA,qsZ,qsS]
     refine held_takeL (v:= ?_) 11 rfl (fun _ _ _ h=>h) ?_ ?_ k2
     rotate_left
     focus ((intro w hSw;(try dsimp only at hSw);go_simp)<;>with_reducible rfl)
     try simp only[Act.put,qsA,qsZ,qsS]
     refine held_takeL (v:= ?_) 13 rfl (fun _ _ _ h=>h) ?_ ?_ k2
     rotate_left
     focus ((intro w hSw;(try dsimp only at hSw);go_simp)<;>with_reducible rfl)
     try simp only[Act.put,qsA,qsZ,qsS]
     refine held_takeL (v:= ?_) 14 rfl (fun _ _ _ h=>h) ?_ ?_ k2
     rotate_left
     focus ((intro w hSw;(try dsimp only at hSw);go_simp)<;>with_reducible rfl)
     try simp only[Act.put,qsA,qsZ,qsS]
     refine held_takeL (v:= ?_) 15 rfl (fun _ _ _ h=>h) ?_ ?_ k2
     rotate_left
     focus ((intro w hSw;(try dsimp only at hSw);go_simp)<;>with_reducible rfl)
     try simp only[Act.put,qsA,qsZ,qsS]
     refine held_takeL (v:= ?_) 16 rfl (fun _ _ _ h=>h) ?_ ?_ k2
     rotate_left
     focus ((intro w hSw;(try dsimp only at hSw);go_simp)<;>with_reducible rfl)
     try simp only[Act.put,qsA,qsZ,qsS]
     refine held_one 12 (fun K hK=> ?_)
     go_simp
     go_at_call 32
     refine(HPF.out w2 (Upd.refl _ _)).mono ?_;rintro e w3 ⟨v3,os3,B3,rfl,hO3,hX3,hC3,hu3⟩;obtain⟨A3,c3,rfl,_⟩:=hO3.els.val;have HU3:=qh hu3;have k3:=HSS.out w3 hu3;have HF3:=qh (And.intro hO3 (And.intro hX3 hC3));clear hu3 hO3 hX3 hC3 HPF k2;go_wp2_with fail
     refine hK.out _ _ (k3) (fun hHeld=> ?_)
     clear hK K
     try simp only[Act.put,qsA,qsZ,qsS]
     refine held_one 17 (fun K hK=> ?_)
     go_simp
     go_at_call 36
     refine(HRF.out w3 HU3.out).mono ?_;rintro e w4 ⟨v4,os4,B4,rfl,hO4,hX4,hC4,hu4⟩;obtain⟨A4,c4,rfl,_⟩:=hO4.els.val;have HU4:=qh (HU3.out.same hu4);have k4:=HSS.out w4 HU4.out;have HSF:=qh (sameframes_ok (HF3.out.1.upd hu4 fun _ _=>id) hO4 (fun o ho=>(HF3.out.2.2 o ho).up hu4) hC4 (HF3.out.2.1.one hX4) (by have:=HF3.out.2.1.len;rw[qlm]at this;have:=HL20.out;omega) (fun o ho=>HLC.out _ ((HF3.out.2.1.2 _).1 (List.mem_map.2 ⟨o,ho,rfl⟩))))
     clear hu4 hO4 hX4 hC4 HRF HF3 k3;go_wp2_with fail
     refine hK.out _ _ (k4) (fun hHeld=> ?_)
     clear hK K
     try simp only[Act.put,qsA,qsZ,qsS]
     refine held_one 18 (fun K hK=> ?_)
     go_simp
     go_at_call 35
     refine(HSF.out).mono ?_;rintro e w5 ⟨rfl,hu5⟩;have HU5:=qh (HU4.out.same hu5);have k5:=HSS.out w5 HU5.out;clear hu5 HSF k4;go_wp2_with fail
     refine hK.out _ _ (k5) (fun hHeld=> ?_)
     clear hK K
     try simp only[Act.put,qsA,qsZ,qsS]
     refine held_takeL (v:= ?_) 19 rfl (fun _ _ _ h=>h) ?_ ?_ k5
     rotate_left
     focus ((intro w hSw;(try dsimp only at hSw);go_simp)<;>with_reducible rfl)
     try simp only[Act.put,qsA,qsZ,qsS]
     refine held_takeL (v:= ?_) 20 rfl (fun _ _ _ h=>h) ?_ ?_ k5
     rotate_left
     focus ((intro w hSw;(try dsimp only at hSw);go_simp)<;>with_reducible rfl)
     try simp only[Act.put,qsA,qsZ,qsS]
     refine held_takeL (v:= ?_) 21 rfl (fun _ _ _ h=>h) ?_ ?_ k5
     rotate_left
     focus ((intro w hSw;(try dsimp only at hSw);go_simp)<;>with_reducible rfl)
     try simp only[Act.put,qsA,qsZ,qsS]
     refine held_takeL (v:= ?_) 22 rfl (fun _ _ _ h=>h) ?_ ?_ k5
     rotate_left
     focus ((intro w hSw;(try dsimp only at hSw);go_simp)<;>with_reducible rfl)
     try simp only[Act.put,qsA,qsZ,qsS]
     refine held_takeL (v:= ?_) 23 rfl (fun _ _ _ h=>h) ?_ ?_ k5
     rotate_left
     focus ((intro w hSw;(try dsimp only at hSw);go_simp)<;>with_reducible rfl)
     try simp only[Act.put,qsA,qsZ,qsS]
     refine held_takeL (v:= ?_) 24 rfl (fun _ _ _ h=>h) ?_ ?_ k5
     rotate_left
     focus ((intro w hSw;(try dsimp only at hSw);go_simp)<;>with_reducible rfl)
     try simp only[Act.put,qsA,qsZ,qsS]
     refine held_takeL (v:= ?_) 25 rfl (fun _ _ _ h=>h) ?_ ?_ k5
     rotate_left
     focus ((intro w hSw;(try dsimp only at hSw);go_simp)<;>with_reducible rfl)
     try simp only[Act.put,qsA,qsZ,qsS]
     refine held_takeL (v:= ?_) 27 rfl (fun _ _ _ h=>h) ?_ ?_ k5
     rotate_left
     focus ((intro w hSw;(try dsimp only at hSw);go_simp)<;>with_reducible rfl)
     try simp only[Act.put,qsA,qsZ,qsS]
     refine held_takeL (v:= ?_) 28 rfl (fun _ _ _ h=>h) ?_ ?_ k5
     rotate_left
     focus ((intro w hSw;(try dsimp only at hSw);go_simp)<;>with_reducible rfl)
     try simp only[Act.put,qsA,qsZ,qsS]
     refine held_takeL (v:= ?_) 29 rfl (fun _ _ _ h=>h) ?_ ?_ k5
     rotate_left
     focus ((intro w hSw;(try dsimp only at hSw);go_simp)<;>with_reducible rfl)
     try simp only[Act.put,qsA,qsZ,qsS]
     refine held_takeL (v:= ?_) 30 rfl (fun _ _ _ h=>h) ?_ ?_ k5
     rotate_left
     focus ((intro w hSw;(try dsimp only at hSw);go_simp)<;>with_reducible rfl)
     try simp only[Act.put,qsA,qsZ,qsS]
     refine held_one 26 (fun K hK=> ?_)
     go_simp
     go_at_call 38
     refine(HPD.out w5 HU5.out).mono ?_;rintro e w6 ⟨v6,B6,X6,rfl,hX6,hO6,hu6⟩;obtain⟨A6,c6,rfl,_⟩:=hO6.els.val;have HU6:=qh (HU5.out.same hu6);have k6:=HSS.out w6 HU6.out;have HF6:=qh (And.intro hO6 hX6);clear hu6 hO6 hX6 HPD k5;go_wp2_with fail
     refine hK.out _ _ (k6) (fun hHeld=> ?_)
     clear hK K
     try simp only[Act.put,qsA,qsZ,qsS]
     refine held_one 31 (fun K hK=> ?_)
     go_simp
     go_at_call 39
     refine(HRD.out w6 HU6.out).mono ?_;rintro e w7 ⟨v7,B7,X7,rfl,hX7,hO7,hu7⟩;obtain rfl:=HF6.out.2.one hX7;obtain⟨A7,c7,rfl,_⟩:=hO7.els.val;have HU7:=qh (HU6.out.same hu7);have k7:=HSS.out w7 HU7.out;have HSD:=qh (samedirty_ok (HF6.out.1.upd hu7 fun _ _=>id) hO7 (by have:=dlF_len X6;have:=HF6.out.2.len;have:=HL20.out;omega))
     clear hu7 hO7 hX7 HRD HF6 k6;go_wp2_with fail
     refine hK.out _ _ (k7) (fun hHeld=> ?_)
     clear hK K
     try simp only[Act.put,qsA,qsZ,qsS]
     refine held_one 32 (fun K hK=> ?_)
     go_simp
     go_at_call 37
     refine(HSD.out).mono ?_;rintro e w8 ⟨rfl,hu8⟩;have HU8:=qh (HU7.out.same hu8);have k8:=HSS.out w8 HU8.out;clear hu8 HSD k7;go_wp2_with fail
     refine hK.out _ _ (k8) (fun hHeld=> ?_)
     clear hK K
     try simp only[Act.put,qsA,qsZ,qsS]
     refine held_takeL (v:= ?_) 33 rfl (fun _ _ _ h=>h) ?_ ?_ k8
     rotate_left
     focus ((intro w hSw;(try dsimp only at hSw);go_simp)<;>with_reducible rfl)
     try simp only[Act.put,qsA,qsZ,qsS]
     refine held_takeL (v:= ?_) 34 rfl (fun _ _ _ h=>h) ?_ ?_ k8
     rotate_left
     focus ((intro w hSw;(try dsimp only at hSw);go_simp)<;>with_reducible rfl)
     try simp only[Act.put,qsA,qsZ,qsS]
     refine held_takeL (v:= ?_) 35 rfl (fun _ _ _ h=>h) ?_ ?_ k8
     rotate_left
     focus ((intro w hSw;(try dsimp only at hSw);go_simp)<;>with_reducible rfl)
     try simp only[Act.put,qsA,qsZ,qsS]
     refine held_takeL (v:= ?_) 36 rfl (fun _ _ _ h=>h) ?_ ?_ k8
     rotate_left
     focus ((intro w hSw;(try dsimp only at hSw);go_simp)<;>with_reducible rfl)
     try simp only[Act.put,qsA,qsZ,qsS]
     refine held_takeL (v:= ?_) 37 rfl (fun _ _ _ h=>h) ?_ ?_ k8
     rotate_left
     focus ((intro w hSw;(try dsimp only at hSw);go_simp)<;>with_reducible rfl)
     try simp only[Act.put,qsA,qsZ,qsS]
     refine held_takeL (v:= ?_) 38 rfl (fun _ _ _ h=>h) ?_ ?_ k8
     rotate_left
     focus ((intro w hSw;(try dsimp only at hSw);go_simp)<;>with_reducible rfl)
     try simp only[Act.put,qsA,qsZ,qsS]
     refine held_takeL (v:= ?_) 39 rfl (fun _ _ _ h=>h) ?_ ?_ k8
     rotate_left
     focus ((intro w hSw;(try dsimp only at hSw);go_simp)<;>with_reducible rfl)
     try simp only[Act.put,qsA,qsZ,qsS]
     refine held_takeL (v:= ?_) 41 rfl (fun _ _ _ h=>h) ?_ ?_ k8
     rotate_left
     focus ((intro w hSw;(try dsimp only at hSw);go_simp)<;>with_reducible rfl)
     try simp only[Act.put,qsA,qsZ,qsS]
     refine held_takeL (v:= ?_) 42 rfl (fun _ _ _ h=>h) ?_ ?_ k8
     rotate_left
     focus ((intro w hSw;(try dsimp only at hSw);go_simp)<;>with_reducible rfl)
     try simp only[Act.put,qsA,qsZ,qsS]
     refine held_takeL (v:= ?_) 43 rfl (fun _ _ _ h=>h) ?_ ?_ k8
     rotate_left
     focus ((intro w hSw;(try dsimp only at hSw);go_simp)<;>with_reducible rfl)
     try simp only[Act.put,qsA,qsZ,qsS]
     refine held_takeL (v:= ?_) 44 rfl (fun _ _ _ h=>h) ?_ ?_ k8
     rotate_left
     focus ((intro w hSw;(try dsimp only at hSw);go_simp)<;>with_reducible rfl)
     try simp only[Act.put,qsA,qsZ,qsS]
     refine held_takeL (v:= ?_) 45 rfl (fun _ _ _ h=>h) ?_ ?_ k8
     rotate_left
     focus ((intro w hSw;(try dsimp only at hSw);go_simp)<;>with_reducible rfl)
     try simp only[Act.put,qsA,qsZ,qsS]
     refine held_takeL (v:= ?_) 46 rfl (fun _ _ _ h=>h) ?_ ?_ k8
     rotate_left
     focus ((intro w hSw;(try dsimp only at hSw);go_simp)<;>with_reducible rfl)
     try simp only[Act.put,qsA,qsZ,qsS]
     refine held_takeL (v:= ?_) 47 rfl (fun _ _ _ h=>h) ?_ ?_ k8
     rotate_left
     focus ((intro w hSw;(try dsimp only at hSw);go_simp)<;>with_reducible rfl)
     try simp only[Act.put,qsA,qsZ,qsS]
     refine held_one 40 (fun K hK=> ?_)
     go_simp
     go_at_call 34
     refine(HFO.out w8 HU8.out).mono ?_;rintro e w9 ⟨rfl,hu9⟩;have HU9:=qh (HU8.out.same hu9);have k9:=HSS.out w9 HU9.out;clear hu9 HFO k8;go_wp2_with fail
     refine hK.out _ _ (k9) (fun hHeld=> ?_)
     clear hK K
     try simp only[Act.put,qsA,qsZ,qsS]
     refine held_takeL (v:= ?_) 48 rfl (fun _ _ _ h=>h) ?_ ?_ k9
     rotate_left
     focus ((intro w hSw;(try dsimp only at hSw);go_simp)<;>with_reducible rfl)
     try simp only[Act.put,qsA,qsZ,qsS]
     refine held_takeL (v:= ?_) 49 rfl (fun _ _ _ h=>h) ?_ ?_ k9
     rotate_left
     focus ((intro w hSw;(try dsimp only at hSw);go_simp)<;>with_reducible rfl)
     try simp only[Act.put,qsA,qsZ,qsS]
     refine wpAnyH_done (by kernel_rfl) ?_ _
     go_wp2_with fail
     go_roundw
     case rel=>exact⟨i+1,by go_num,by omega,(HK2.out.up HU9.out).mono (by omega)⟩
     case measure=>simp[intOf];omega
    ·have e:i=N:=by omega
     subst e;have hii:¬(i:Int)<(i:Int):=by omega
     clear hK;obtain⟨p,S,T,M,h1,_⟩:=HK.out.ex;have HH:=qh h1.half;have HHZ:Hid (0<wr.heap.size):=qh h1.half.lt;have HLW:Hid (w.heap.size≤wr.heap.size):=qh HK.out.upd.size;clear h1;go_wp2_with fail
     refine(awake_ok HH.out HHZ.out).mono ?_;rintro e w9 ⟨rfl,hu9⟩;have HU9:Hid (Upd (fun k=>w.heap.size≤k) w w9):=qh (HK.out.upd.same (hu9.mono fun _ _ e=>Nat.le_trans HLW.out e))
     clear hu9;go_wp2_with fail
     go_ret;exact⟨rfl,HU9.out⟩
end Go.Proofs.YtdfccegeihfdpaaGreatDoor
