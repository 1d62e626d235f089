/-
  PoolAhead: the law, walked.
-/
import Derived.Test.YtdfccegeihfdpaaGreatDoorARgG
set_option maxRecDepth 100000
set_option maxHeartbeats 16000000
namespace Go.Proofs.YtdfccegeihfdpaaGreatDoor
open Go Go.RowKit
theorem poolAhead_in(pages frames:Int){w:World}{A0:Option Addr}{N c0:Nat}{L:List CaV}(hE:Els 5 CaV.cells w (.slice A0 N c0) L)(hN:L.length=N)(hW:HalfW w)(hz:0<w.heap.size):
 Calls Tryz.prog 6 #[.int .i64 pages,.int .i64 frames,.slice A0 N c0] w fun e w'=>e= .returned (.bool true)∧Upd (fun k=>w.heap.size≤k) w w':=by
 have HR:=qh (pright_ok pages frames hE hN);have HE:=qh hE;have HN:=qh hN;have HW:=qh hW;have HZ:=qh hz;clear hE hN hW hz;go_enter Tryz.func6,Tryz.ntmps6
 go_wp2_with fail
 refine HR.out.mono ?_;rintro e w0 ⟨b,rfl,hb,hu0⟩;have HU0:Hid (Upd (fun k=>w.heap.size≤k) w w0):=qh hu0.any
 have HUP:Hid (Upd Nowhere w w0):=qh hu0;have HW0:=qh (HW.out.upd hu0 id);have HZ0:Hid (0<w0.heap.size):=qh (Nat.lt_of_lt_of_le HZ.out hu0.size);have HLE:Hid (w.heap.size≤w0.heap.size):=qh hu0.size;clear hu0 HR
 cases b with
 | false=>
   clear hb;go_wp2_with fail
   refine(awake_ok HW0.out HZ0.out).mono ?_;rintro e w9 ⟨rfl,hu9⟩;have HU9:Hid (Upd (fun k=>w.heap.size≤k) w w9):=qh (HU0.out.same (hu9.mono fun _ _ e=>Nat.le_trans HLE.out e))
   clear hu9;go_wp2_with fail
   go_ret;exact⟨rfl,HU9.out⟩
 | true=>
   obtain⟨hpg,hfr,hlen,hok⟩:=hb rfl;clear hb;obtain⟨pg,rfl⟩:∃n:Nat,pages=(n:Nat):=⟨pages.toNat,by omega⟩
   obtain⟨fr,rfl⟩:∃n:Nat,frames=(n:Nat):=⟨frames.toNat,by omega⟩
   have hb:=begun_ok w0 HW0.out HZ0.out pg fr (by omega) (by omega) (by omega) (by omega)
   have HB:=qh hb;have HPG:Hid (1≤pg∧pg≤20):=qh ⟨by omega,by omega⟩
   have HFR:Hid (1≤fr∧fr≤20):=qh ⟨by omega,by omega⟩
   have HOK:=qh hok;have HLEN:Hid (N≤100):=qh (by have:=HN.out;omega)
   have hpgI:(pg:Int)≤20:=by omega
   clear hb hpg hfr hlen hok;go_wp2_with fail
   refine HB.out.mono ?_;rintro e w1 ⟨x,rfl,hbeg⟩;obtain⟨P,l,q,d,hk1⟩:=KB.start HW0.out HPG.out HFR.out HUP.out hbeg;have HK1:=qh hk1;clear hbeg hk1 HB;go_wp2_with fail
   go_loopw [8] (fun s8 wr=>∃i:Nat,s8= .int .i64 (i:Int)∧i≤N∧KB w w0 P l d pg fr x q (4 * i) wr) (fun s8 _=>N - (intOf s8).toNat)
   case atStart=>exact⟨0,rfl,Nat.zero_le _,HK1.out⟩
   case round=>
    obtain⟨i,rfl,hi,hK⟩:=hrel;have HK:=qh hK;by_cases hlt:i<N
    ·obtain⟨⟨kind,n,key,vh,vd⟩,hx⟩:∃y,L[i]? =some y:=⟨_,qeg (by rw[HN.out];exact hlt)⟩
     have hE2:=HE.out.newer hK.upd fun k hk e=>by omega
     obtain⟨b,off,rfl,hbl,r0,r1,r2,r3,r4⟩:=CaV.get hE2 hx;have hco:=HOK.out _ (qmg hx);unfold CaV.ok at hco;simp only at r0 r1 r2 r3 r4 hco;have hiI:(i:Int)<(N:Int):=by omega
     have hNI:(N:Int)≤100:=by have:=HLEN.out;omega
     have HDO:=qh (hK.does (kind:=kind) (n:=n) (by omega) hco)
     clear hK hE2 hx hco;go_wp2_with fail
     refine HDO.out.mono ?_;rintro e w2 ⟨rfl,hK2⟩;have HK2:=qh hK2;obtain⟨S,p,hL,hlb,hlf,hld⟩:=hK2.ahead (by omega)
     have HLB:=qh hlb;have HL:=qh hL;have HLF:=qh hlf;have HLD:=qh hld;clear r0 r1 r2 r3 r4 hK2 hL hlb hlf hld HDO;go_wp2_with fail
     go_loopw [9] (fun s9 wl=>∃n2:Nat,s9= .int .i64 (n2:Int)∧n2≤pg∧Upd Nowhere w2 wl) (fun s9 _=>pg - (intOf s9).toNat)
     case atStart=>exact⟨0,rfl,Nat.zero_le _,Upd.refl _ _⟩
     case round=>
      obtain⟨n2,rfl,hn2,hu⟩:=hrel;have HU:=qh hu;by_cases hlt3:n2<pg
      ·have HLW:=qh (HLD.out n2 hlt3 _ hu);have hnP:(n2:Int)<(pg:Int):=by omega
       have x0:=(HK2.out.play.upd hu id).cell 0;simp only[qA,qZ]at x0;have hn20:(n2:Int)≤20:=by have:=HPG.out;omega
       clear hu;go_wp2_with fail
       refine HLW.out.mono ?_;rintro e w4 ⟨lsn,t,kn,A4,c4,rfl,hle,hu4⟩;have hu4':=HU.out.same hu4;have hbp:=Blk.new w4 72 #[.int .i64 (lsn:Nat),.slice A4 kn c4];have p0:=hbp.cell 0;obtain⟨wB,hwB⟩:∃wB,w4.alloc (.cells #[.int .i64 (lsn:Nat),.slice A4 kn c4] 72)=wB:=⟨_,rfl⟩;have hu5:Upd Nowhere w2 wB:=hwB▸hu4'.alloc _;have x1:=(HK2.out.play.upd hu5 id).cell 1;rw[hwB]at p0;simp only[qA,qZ,qS]at p0 x1;obtain⟨b10,hb10⟩:∃b10,w4.heap.size=b10:=⟨_,rfl⟩;rw[hb10]at p0;have hfo:=pforced_ok (HL.out.up hu5.drew) HLB.out.1 (by omega) HLB.out.2
       have e:S.m.lsn+(S.forced:Nat) - 1=(S.forced:Nat):=HLF.out;rw[e]at hfo;have HFO:=qh hfo;have hg:¬(S.forced:Int)<(lsn:Int):=by omega
       have hg2:decide ((S.forced:Int)<(lsn:Int))=false:=decide_eq_false hg;have HU5:=qh hu5;have hbB:Blk wB b10 72 #[.int .i64 (lsn:Nat),.slice A4 kn c4]:=by rw[←hwB,←hb10];exact Blk.new w4 _ _
       have EE:Hid (∀W,Upd Nowhere wB W→W.cell? ⟨b10,0,none⟩=some (.int .i64 (lsn:Nat))∧W.cell? ⟨x,1,none⟩=some (.pointer (some ⟨l,0,none⟩))):=qh fun W hW=>by
        have e0:=(hbB.upd hW id).cell 0;have e1:=(HK2.out.play.upd (HU5.out.same hW) id).cell 1;simp only[qA,qZ,qS]at e0 e1;exact⟨e0,e1⟩
       have dd:=EE.out wB (Upd.refl _ _);have d2:=EE.out wB.drew (Upd.refl Nowhere wB).drew;clear hu4 hu4' hbp hu5 hfo hle e x0 HLW hbB;go_wp2_with fail
       go_region_held3 (fun w'=>w'.cell? ⟨b10,0,none⟩=some (.int .i64 (lsn:Nat))∧w'.cell? ⟨x,1,none⟩=some (.pointer (some ⟨l,0,none⟩))) (first | with_reducible exact dd | with_reducible exact d2 | with_reducible exact k2)
        (first
          | (go_at_call 34
             refine HFO.out.mono ?_;rintro e w6 ⟨rfl,hu6⟩;have k2:=EE.out w6 ((Upd.refl Nowhere wB).drew.same hu6);have HU6:=qh (HU5.out.drew.same hu6);clear hu6))
       all_goals
        go_wp2_with fail
        go_roundw
        case rel=>exact⟨n2+1,by go_num,by omega,HU6.out⟩
        case measure=>simp[intOf];omega
      ·have e:n2=pg:=by omega
       subst e;have hkk2:¬(n2:Int)<(n2:Int):=by omega
       clear hu;go_wp2_with fail
       go_roundw
       case rel=>exact⟨i+1,by go_num,by omega,(HK2.out.up HU.out).mono (by omega)⟩
       case measure=>simp[intOf];omega
    ·have e:i=N:=by omega
     subst e;have hii:¬(i:Int)<(i:Int):=by omega
     clear hK;obtain⟨p,S,T,M,h1,_⟩:=HK.out.ex;have HH:=qh h1.half;have HHZ:Hid (0<wr.heap.size):=qh h1.half.lt;have HLW:Hid (w.heap.size≤wr.heap.size):=qh HK.out.upd.size;clear h1;go_wp2_with fail
     refine(awake_ok HH.out HHZ.out).mono ?_;rintro e w9 ⟨rfl,hu9⟩;have HU9:Hid (Upd (fun k=>w.heap.size≤k) w w9):=qh (HK.out.upd.same (hu9.mono fun _ _ e=>Nat.le_trans HLW.out e))
     clear hu9;go_wp2_with fail
     go_ret;exact⟨rfl,HU9.out⟩
end Go.Proofs.YtdfccegeihfdpaaGreatDoor
