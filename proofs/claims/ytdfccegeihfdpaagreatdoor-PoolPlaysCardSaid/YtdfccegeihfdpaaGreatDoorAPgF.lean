/-
  Contracts of layer 10: Encode, Decode.
-/
import Derived.Test.YtdfccegeihfdpaaGreatDoorAPgD
import Derived.Test.YtdfccegeihfdpaaGreatDoorAPm6
set_option maxRecDepth 100000
set_option maxHeartbeats 4000000
namespace Go.Proofs.YtdfccegeihfdpaaGreatDoor
open Go Go.RowKit
def takeB(L:Cl)(k:Nat):Bs:=(L.take k).flatMap cellB
theorem takeB_step{L:Cl}{k:Nat}{c:Ky×Vl}(h:L[k]? =some c):takeB L (k+1)=takeB L k++cellB c:=by
 unfold takeB;rw[List.take_add_one,h,List.flatMap_append];simp
theorem takeB_all(L:Cl):takeB L L.length=L.flatMap cellB:=by
 unfold takeB;rw[List.take_length]
theorem takeB_len{L:Cl}(h:∀c∈L,CellOK c)(k:Nat):(takeB L k).length≤51 * L.length:=by
 have h1:=cells_len (L.take k) fun c hc=>h c (List.mem_of_mem_take hc)
 have h2:=List.length_take_le k L;unfold takeB;have h3:(L.take k).length≤L.length:=by rw[qlt];omega
 have:=Nat.mul_le_mul_left 51 h3;omega
theorem penc_ok{w:World}{v:Value}{p:PgP}(h:CellsE w v p.cells)(hp:p.ok):Calls Tryz.prog 200 #[.agg #[.int .i64 (p.lsn:Nat),v]] w fun e w'=>∃A c,e= .returned (.tuple #[.slice A p.enc.length c,.int .i64 0])∧OwnB w.heap.size w' (.slice A p.enc.length c) p.enc∧Upd Nowhere w w':=by
 obtain⟨A,c,rfl,hcap⟩:=h.val;obtain⟨pl,L⟩:=p;simp only at h hcap ⊢;have HENC:Hid (PgP.enc ⟨pl,L⟩=shortB pl++(shortB L.length++L.flatMap cellB)):=qh rfl;have HEL:=qh (PgP.enc_len hp);have HP:=qh hp;obtain⟨E,hE⟩:∃E,PgP.enc ⟨pl,L⟩=E:=⟨_,rfl⟩;rw[hE]at HENC HEL ⊢;obtain⟨n,hn⟩:∃n,L.length=n:=⟨_,rfl⟩;have hb:=Blk.new w 72 #[.int .i64 (pl:Nat),.slice A n c];have hu:=(Upd.refl Nowhere w).alloc (.cells #[.int .i64 (pl:Nat),.slice A n c] 72);have HN:=qh hn;have HE:=qh hE;rw[hn]at h HENC hcap ⊢;have H:=qh (h.up hu);have HU:=qh hu;have HB:=qh hb;have a0:=hb.cell 0;have a1:=hb.cell 1;simp only[qA,qZ,qS]at a0 a1;have hn4:n≤4:=by rw[←hn];exact hp.len
 have hl63:pl<9223372036854775808:=by have:=hp.lsn;simp only at this;omega
 clear h hu hb hE hn hp;go_enter Tryz.func200,Tryz.ntmps200
 go_wp2_with fail
 generalize w.alloc (.cells #[.int .i64 (pl:Nat),.slice A n c] 72)=wA at*;refine(pmay_ok H.out HP.out).mono ?_;rintro e w1 ⟨rfl,hu1⟩;have HU1:=qh (HU.out.same hu1);have HW:Hid (WAt w1.heap.size (w1.alloc (.cells #[.slice none 0 0] 193)) w1.heap.size []):=qh ⟨⟨none,0,Blk.new _ _ _,OwnR.nil _ _ _ _ _⟩,qlr _⟩;have HU2:=qh (HU1.out.alloc (.cells #[.slice none 0 0] 193));have hb1:=(HB.out.upd hu1 id).alloc (.cells #[.slice none 0 0] 193);have HB1:=qh hb1;have H1:=qh ((H.out.up hu1).up ((Upd.refl Nowhere w1).alloc (.cells #[.slice none 0 0] 193)));have b0:=hb1.cell 0;simp only[qA,qZ]at b0;have hsz:w.heap.size+1≤w1.heap.size:=by have:=HB.out.lt;have:=hu1.size;omega
 clear hu1 hb1 a0 a1;go_wp2_with fail
 obtain⟨W,hW⟩:∃W,w1.heap.size=W:=⟨_,rfl⟩;obtain⟨w2,hw2⟩:∃w2,w1.alloc (.cells #[.slice none 0 0] 193)=w2:=⟨_,rfl⟩;have HBW:Hid (Blk w2 W 193 #[.slice none 0 0]):=qh (by rw[←hw2,←hW];exact Blk.new _ _ _)
 rw[hw2,hW]at HW;rw[hw2]at HU2 HB1 H1 b0 ⊢;rw[hW]at hsz ⊢;clear hW hw2;have HWB:Hid (Blk w2 W 193 #[.slice none 0 0]):=HBW
 have HCE:Hid (∀X,Upd (WrF W W w2) w2 X→CellsE X (.slice A n c) L):=qh fun X hX=>H1.out.upd hX fun k hk hc=>by
  rcases hk with rfl | ⟨_,h8⟩
  ·exact hc.ne HWB.out (by decide) rfl
  ·obtain⟨cs,fz,e⟩:=hc;obtain⟨cs',fz',e'⟩:=h8;rw[e]at e';injection e' with e'
   injection e' with _ e' _
   exact absurd e' (by decide)
 have hbW:w.heap.size≠W:=by omega
 refine(wnum2_ok HW.out pl hl63 (by simp)).mono ?_
 rintro e w3 ⟨rfl,hW3,hu3⟩;have HW3:=qh hW3;have HU3:=qh hu3;have HB3:=qh (HB1.out.wr (by decide) hbW hu3)
 have c1:=HB3.out.cell 1;simp only[qA,qZ,qS]at c1;clear hW3 hu3 b0;go_wp2_with fail
 refine(wnum2_ok HW3.out n (by omega) (by have:=shortB_6 HP.out.lsn;simp only[List.nil_append]at*;omega)).mono ?_
 rintro e w4 ⟨rfl,hW4,hu4⟩;have HU4:=qh (HU3.out.wr hu4)
 have HW4:Hid (WAt W w4 W ((shortB pl++shortB n)++takeB L 0)):=qh (by
  have e:(shortB pl++shortB n)++takeB L 0=[]++shortB pl++shortB n:=by simp[takeB]
  rw[e];exact hW4)
 have d1:=(HB3.out.wr (by decide) hbW hu4).cell 1
 simp only[qA,qZ,qS]at d1;obtain⟨pre,hpre⟩:∃pre,shortB pl++shortB n=pre:=⟨_,rfl⟩
 have HPL:Hid (pre.length≤12):=qh (by
  have h1:=shortB_6 HP.out.lsn;have h2:=shortB_1 (n:=n) (by omega)
  rw[←hpre,qla];simp only at h1;omega)
 rw[hpre]at HW4;have HPRE:=qh hpre;clear hW4 hu4 c1 hpre HW3 HU3;go_wp2_with fail
 go_loopw [20] (fun s20 wr=>∃k:Nat,s20= .int .i64 (k:Int)∧k≤n∧WAt W wr W (pre++takeB L k)∧Upd (WrF W W w2) w2 wr) (fun s20 _=>n - (intOf s20).toNat)
 case atStart=>exact⟨0,rfl,by omega,HW4.out,HU4.out⟩
 case round=>
  obtain⟨k,rfl,hk,hw,hu⟩:=hrel;by_cases hlt:k<n
  ·obtain⟨⟨kk,vh,vd⟩,hp⟩:∃p,L[k]? =some p:=⟨_,qeg (by rw[HN.out];exact hlt)⟩
   have hcg:=(HCE.out wr hu).get hp;rw[HN.out]at hcg;obtain⟨b,off,c',he,hb,p0,p1,p2⟩:=hcg
   cases he;simp only at p0 p1 p2;have hi:(k:Int)<(n:Int):=by omega
   have hn4':(n:Int)≤4:=by omega
   have hOK:=HP.out.may _ (qmg hp);have HTL:Hid ((pre++takeB L k).length≤220):=qh (by have h1:=takeB_len HP.out.may k;have h2:=HN.out;have h3:=HP.out.len;have h4:=HPL.out;simp only at h1 h3;rw[qla];omega)
   have HST:Hid (pre++takeB L (k+1)=pre++takeB L k++textB kk++flagB vh++(if vh then textB vd else [])):=qh (by
    rw[takeB_step hp];unfold cellB;simp only[qaa])
   have hq:=Blk.new wr 155 #[strV kk,.bool vh,strV vd];have hua:=(Upd.refl Nowhere wr).alloc (.cells #[strV kk,.bool vh,strV vd] 155);have HQ:=qh hq;have HUA:=qh (hu.wr hua.any);have HW5:=qh (hw.upd hua fun k hk hk2 e=>e)
   have hqW:wr.heap.size≠W:=by have:=hw.lt;omega
   have HOK:=qh hOK;have hk16:kk.length≤16:=hOK.key;have hv32:vd.length≤32:=hOK.val;have q0:=hq.cell 0;have q1:=hq.cell 1;have q2:=hq.cell 2;simp only[qA,qZ,qS]at q0 q1 q2;obtain⟨T,hT⟩:∃T,pre++takeB L k=T:=⟨_,rfl⟩;rw[hT]at HTL HST HW5;clear hp hOK hq hua hw hu hT;go_wp2_with fail
   refine(wtext2_ok HW5.out kk (by omega) (by have:=HTL.out;omega)).mono ?_
   rintro e w5 ⟨rfl,hW5,hu5⟩;have HW6:=qh hW5;have HQ5:=qh (HQ.out.wr (by decide) hqW hu5)
   have HU5:=qh (HUA.out.wr hu5);have r1:=HQ5.out.cell 1;simp only[qA,qZ,qS]at r1;clear hW5 hu5 p0 p1 p2 q0 q1 q2 HW5 HUA;go_wp2_with fail
   have hkl:(textB kk).length≤17:=by unfold textB;rw[qla,shortB_1 (by omega)];omega
   have HKL:=qh hkl;refine(wflag2_ok HW6.out vh (by have:=HTL.out;rw[qla];omega)).mono ?_
   rintro e w6 ⟨rfl,hW6,hu6⟩;have HW7:=qh hW6;have HQ6:=qh (HQ5.out.wr (by decide) hqW hu6)
   have HU6:=qh (HU5.out.wr hu6);have t1:=HQ6.out.cell 1;have t2:=HQ6.out.cell 2;simp only[qA,qZ,qS]at t1 t2;clear hW6 hu6 r1 HW6 HU5 HQ5 hkl
   cases vh with
   | true=>
     go_wp2_with fail
     refine(wtext2_ok HW7.out vd (by omega) (by have:=HTL.out;have:=HKL.out;simp only[qla];have:(flagB true).length=1:=rfl;omega)).mono ?_
     rintro e w7 ⟨rfl,hW7,hu7⟩;have HW8:=qh hW7;have HU7:=qh (HU6.out.wr hu7);clear hW7 hu7;go_wp2_with fail
     go_roundw
     case rel=>exact⟨k+1,by go_num,by omega,by rw[HST.out,if_pos (by simp)];exact HW8.out,HU7.out⟩
     case measure=>simp[intOf];omega
   | false=>
     go_wp2_with fail
     go_roundw
     case rel=>exact⟨k+1,by go_num,by omega,by rw[HST.out,if_neg (by decide),List.append_nil];exact HW7.out,HU6.out⟩
     case measure=>simp[intOf];omega
  ·have e:k=n:=by omega
   subst e;have hi:¬(k:Int)<(k:Int):=by omega
   have HWF:Hid (WAt W wr W E):=qh (by
    rw[HENC.out,←qaa,HPRE.out];have h1:=takeB_all L;rw[HN.out]at h1;rw[←h1];exact hw)
   have HUF:=qh hu;clear hu hw;go_wp2_with fail
   refine(wbytes_ok HWF.out (by have:=HEL.out;omega)).mono ?_
   rintro e w9 ⟨A9,c9,rfl,hO9,hu9⟩;have HO9:=qh hO9;have HU9:=qh hu9;clear hO9 hu9;go_wp2_with fail
   go_ret2;have hsz2:w.heap.size+1≤w2.heap.size:=by have:=HB1.out.lt;omega
   refine⟨A9,c9,rfl,HO9.out.far fun k hk=> ?_,(HU2.out.trans HUF.out fun k hk e=> ?_).same HU9.out⟩
   ·have:=HO9.out.new k hk;have:=HUF.out.size;omega
   ·rcases e with e | e
    ·omega
    ·omega
theorem pdec_ok{w:World}{v:Value}{p:PgP}{r:Bs}(h:BytesE w v (p.enc++r))(hp:p.ok)(hl:(p.enc++r).length≤1000):Calls Tryz.prog 148 #[v] w fun e w'=>∃A c,e= .returned (.tuple #[.agg #[.int .i64 (p.lsn:Nat),.slice A p.cells.length c],.int .i64 0])∧OwnC w.heap.size w' (.slice A p.cells.length c) p.cells∧Upd Nowhere w w':=by
 obtain⟨A0,c0,rfl,_⟩:=h.val;have H:=qh (h.alloc (.cells #[.int .i64 0,.slice none 0 0] 72));have HRL:=qh (PgP.read_lsn hp r);have HRN:=qh (PgP.read_len hp r);have HPL:=qh hp;have HU0:=qh ((Upd.refl Nowhere w).alloc (.cells #[.int .i64 0,.slice none 0 0] 72));have HB2:=qh (Blk.new w 72 #[.int .i64 0,.slice none 0 0]);obtain⟨lsn,L⟩:=p;simp only at HRL HRN ⊢;obtain⟨n,hn⟩:∃n,L.length=n:=⟨_,rfl⟩;rw[hn]at HRL HRN ⊢;have HN:=qh hn;have hn4:n≤4:=by rw[←hn];exact hp.len
 obtain⟨B,hB⟩:∃B,PgP.enc ⟨lsn,L⟩++r=B:=⟨_,rfl⟩
 have HL:Hid ((restB L 0 r).length≤1000∧(shortB n++restB L 0 r).length≤1000):=qh (by
  rw[PgP.enc_rest]at hl;simp only[qla,hn]at hl;rw[qla];omega)
 rw[hB]at H HRL hl ⊢;have HLB:=qh hl;clear hp h hn hB hl;go_enter Tryz.func148,Tryz.ntmps148
 go_wp2_with fail
 generalize w.alloc (.cells #[.int .i64 0,.slice none 0 0] 72)=wA at*;refine(read_ok H.out (by have:=HLB.out;omega)).mono ?_
 rintro e w1 ⟨R,rfl,hR,hRA,hu1⟩;have HRA:=qh hRA;have HU1:=qh (HU0.out.same hu1);have HB2a:=qh (HB2.out.upd hu1 id);have hRw:w.heap.size<R:=by have:=HB2.out.lt;omega
 clear hRA hu1 hR;go_wp2_with fail
 refine(rnum_ok HRA.out (by have:=HLB.out;simp only;omega) 1099511627776 (by omega)).mono ?_
 rintro e w2 ⟨rfl,hR2,hu2⟩;rw[HRL.out]at hR2;simp only at hR2;have hz5:R≠w2.heap.size:=by have:=hR2.lt;omega
 have HR2:=qh (hR2.upd ((Upd.refl Nowhere w2).alloc (.cells #[.int .i64 (lsn:Nat),.slice none 0 0] 72)) id fun _ h=>absurd h id)
 have HB5:=qh (Blk.new w2 72 #[.int .i64 (lsn:Nat),.slice none 0 0]);have HB2b:=qh ((HB2a.out.upd hu2 (by omega)).alloc (.cells #[.int .i64 (lsn:Nat),.slice none 0 0] 72))
 have HU2:Hid (Upd (fun x=>w.heap.size≤x) w (w2.alloc (.cells #[.int .i64 (lsn:Nat),.slice none 0 0] 72))):=qh ((HU1.out.any.trans hu2 fun k _ e=>by omega).alloc _)
 have HQ5:Hid (w.heap.size<w2.heap.size):=qh (by have:=HB2a.out.lt;have:=hu2.size;omega)
 have e1:(numR 1099511627776 (B,0)).1=lsn:=by rw[HRL.out]
 have E1:=qh e1;clear hR2 hu2 e1;rw[E1.out];go_wp2_with fail
 obtain⟨q5,hq5⟩:∃q5,w2.heap.size=q5:=⟨_,rfl⟩;obtain⟨w3,hw3⟩:∃w3,w2.alloc (.cells #[.int .i64 (lsn:Nat),.slice none 0 0] 72)=w3:=⟨_,rfl⟩;rw[hw3]at HR2 HB5 HB2b HU2 ⊢;rw[hq5]at HB5 HQ5 hz5 ⊢;have HRQ:=qh hz5;clear hw3 hq5 hz5;refine(rnum_ok HR2.out (by have:=HL.out;simp only;omega) 4 (by omega)).mono ?_
 rintro e w4 ⟨rfl,hR4,hu4⟩;have e2:(numR 4 (shortB n++restB L 0 r,0)).1=n:=by rw[HRN.out]
 rw[HRN.out]at hR4;simp only at hR4;have HR4:=qh hR4;have HB54:=qh (HB5.out.upd hu4 (by have:=HRQ.out;omega))
 have HB24:=qh (HB2b.out.upd hu4 (by omega))
 have HU4:=qh (HU2.out.trans hu4 fun k _ e=>by omega)
 have E2:=qh e2;clear hR4 hu4 e2;rw[E2.out];go_wp2_with fail
 go_loopw [14] (fun s14 wr=>∃(k:Nat) (Ak:Option Addr) (ck:Nat),s14= .int .i64 (k:Int)∧k≤n∧RAt wr R (restB L k r,0)∧Blk wr q5 72 #[.int .i64 (lsn:Nat),.slice Ak k ck]∧Blk wr w.heap.size 72 #[.int .i64 0,.slice none 0 0]∧OwnC w.heap.size wr (.slice Ak k ck) (L.take k)∧Upd (fun x=>w.heap.size≤x) w wr) (fun s14 _=>n - (intOf s14).toNat)
 case atStart=>exact⟨0,none,0,rfl,by omega,HR4.out,HB54.out,HB24.out,by rw[List.take_zero];exact OwnR.nil _ _ _ _ _,HU4.out⟩
 case round=>
  obtain⟨k,Ak,ck,rfl,hk,hRr,hBr,hB2r,hOr,hur⟩:=hrel;by_cases hlt:k<n
  ·obtain⟨⟨kk,vh,vd⟩,hp⟩:∃p,L[k]? =some p:=⟨_,qeg (by rw[HN.out];exact hlt)⟩
   have hi:(k:Int)<(n:Int):=by omega
   have hn4':(n:Int)≤4:=by omega
   have hOK:=HPL.out.may _ (qmg hp);have hst:=restB_step hp r;have HK1:=qh (cell_key hOK (restB L (k+1) r));rw[←hst]at HK1;simp only at HK1;have hflag:=flagR_flag vh ((if vh then textB vd else [])++restB L (k+1) r)
   have HF1:=qh hflag
   have HRl:Hid ((restB L k r).length≤1000):=qh (by
    have h1:=HL.out.1
    have h2:(restB L k r).length≤(restB L 0 r).length:=by
     unfold restB;rw[qla,qla,List.drop_zero,←List.take_append_drop k L,List.flatMap_append,qla];rw[List.take_append_drop];omega
    omega)
   have HOK:=qh hOK;have HPK:=qh hp;have HRr:=qh hRr;have HBr:=qh hBr;have HB2r:=qh hB2r;have HOr:=qh hOr;have HUr:=qh hur;clear hOK hp hst hflag hRr hBr hB2r hOr hur;go_wp2_with fail
   refine(rtext_ok HRr.out (by have:=HRl.out;simp only;omega) 16 (by omega)).mono ?_
   rintro e w5 ⟨rfl,hR5,hu5⟩;have e5:(textR 16 (restB L k r,0)).1=kk:=by rw[HK1.out]
   rw[HK1.out]at hR5;simp only at hR5;have HR5:=qh hR5;have HE5:=qh e5;have HB5a:=qh (HBr.out.upd hu5 (by have:=HRQ.out;omega))
   have HB2c:=qh (HB2r.out.upd hu5 (by omega))
   have HO5:=qh (HOr.out.upd hu5 fun q hq e=>by
    obtain⟨cs,hc⟩:=HOr.out.is_cells hq;obtain⟨_,_,_,hRB,_⟩:=HRr.out.ex;exact Blk.ne_ (show Blk wr q _ cs from hc) hRB (by decide) e)
   have HU5:=qh (HUr.out.trans hu5 fun k _ e=>by omega)
   clear hR5 hu5 e5;rw[HE5.out];go_wp2_with fail
   have hfl5:(flagB vh++((if vh then textB vd else [])++restB L (k+1) r)).length≤1000:=by
    have h1:=HRl.out;have h2:=restB_step HPK.out r;rw[h2]at h1;unfold cellB at h1;simp only[qla]at h1 ⊢;omega
   have HFL:=qh hfl5;refine(rflag_ok HR5.out (by have:=HFL.out;simp only;exact Nat.le_trans this (by decide))).mono ?_
   rintro e w6' ⟨rfl,hR6,hu6⟩;have e6:(flagR (flagB vh++((if vh then textB vd else [])++restB L (k+1) r),0)).1=vh:=by rw[HF1.out]
   rw[HF1.out]at hR6;simp only at hR6;have HE6:=qh e6;rw[e6];have HR6:=qh hR6;have HB5b:=qh (HB5a.out.upd hu6 (by have:=HRQ.out;omega))
   have HB2d:=qh (HB2c.out.upd hu6 (by omega))
   have HO6:=qh (HO5.out.upd hu6 fun q hq e=>by
    obtain⟨cs,hc⟩:=HO5.out.is_cells hq;obtain⟨_,_,_,hRB,_⟩:=HR5.out.ex;exact Blk.ne_ (show Blk w5 q _ cs from hc) hRB (by decide) e)
   have HU6:=qh (HU5.out.trans hu6 fun k _ e=>by omega)
   clear hR6 hu6 e6 hfl5
   cases vh with
   | false=>
     obtain rfl:vd=[]:=HOK.out.no rfl;have hq:=Blk.new w6' 155 #[strV kk,.bool false,strV []];have hua:=(Upd.refl Nowhere w6').alloc (.cells #[strV kk,.bool false,strV []] 155);have q0:=hq.cell 0;have q1:=hq.cell 1;have q2:=hq.cell 2;simp only[qA,qZ,qS]at q0 q1 q2;have HRx:=qh (HR6.out.upd hua id fun _ h=>absurd h id)
     rw[if_neg (by simp),List.nil_append]at HRx
     have HB5x:=qh (HB5b.out.upd hua id);have HB2x:=qh (HB2d.out.upd hua id);have HOx:=qh (HO6.out.upd hua fun _ _=>id)
     have HUx:=qh (HU6.out.alloc (.cells #[strV kk,.bool false,strV []] 155));clear hq hua;go_upto_region 8 with(fail)
     obtain⟨q6,hq6⟩:∃q6,w6'.heap.size=q6:=⟨_,rfl⟩;obtain⟨wX,hwX⟩:∃wX,w6'.alloc (.cells #[strV kk,.bool false,strV []] 155)=wX:=⟨_,rfl⟩;obtain⟨vd,hvd⟩:∃vd:Bs,[]=vd:=⟨_,rfl⟩;rw[hwX]at HRx HB5x HB2x HOx HUx q0 q1 q2 ⊢;rw[hq6]at q0 q1 q2 ⊢;rw[hvd]at q2 HPK;clear hwX hq6 hvd;have hrow:=Blk.new wX 155 (cellC (kk,false,vd)).toArray;obtain⟨A6,c6,w6,hrun,hO6,hu6⟩:=cell_row.appU (HOx.out.alloc (.cells (cellC (kk,false,vd)).toArray 155)) (by have:=HUx.out.size;simp;omega) 70 (one_els hrow) (by have:=List.length_take_le k L;have:=HPL.out.len;simp only[qls,qlt]at*;omega)
     simp only[qls]at hrun hO6;have hlk:(L.take k).length=k:=by rw[qlt,HN.out];omega
     rw[hlk]at hrun hO6
     have hown:∀q,(Value.slice Ak k ck).ownBlock=some q→w.heap.size≤q∧q≠R∧q≠q5∧q≠w.heap.size:=fun q hq=>by
      obtain⟨cs,hc⟩:=HOx.out.is_cells hq;obtain⟨_,_,_,hRB,_⟩:=HRx.out.ex;refine⟨HOx.out.new q hq,fun e=> ?_,fun e=> ?_,fun e=> ?_⟩
      ·exact Blk.ne_ (show Blk wX q _ cs from hc) hRB (by decide) e
      ·exact Blk.ne_ (show Blk wX q _ cs from hc) HB5x.out (by decide) e
      ·exact Blk.ne_ (show Blk wX q _ cs from hc) HB2x.out (by decide) e
     have hb5:=(HB5x.out.alloc (.cells (cellC (kk,false,vd)).toArray 155)).upd hu6 fun e=>(hown q5 e).2.2.1 rfl
     have hb2:=(HB2x.out.alloc (.cells (cellC (kk,false,vd)).toArray 155)).upd hu6 fun e=>(hown w.heap.size e).2.2.2 rfl
     have hra:=(HRx.out.upd ((Upd.refl Nowhere wX).alloc (.cells (cellC (kk,false,vd)).toArray 155)) id fun _ h=>absurd h id).upd hu6 (fun e=>(hown R e).2.1 rfl) fun q hq h8=>by
      obtain⟨cs,hc⟩:=(HOx.out.alloc (.cells (cellC (kk,false,vd)).toArray 155)).is_cells hq;obtain⟨cs',fz,hc'⟩:=h8;rw[hc]at hc';injection hc' with hc'
      injection hc' with _ e _
      exact absurd e (by decide)
     have hkA:Hid ((L.take k)++[(kk,false,vd)]=L.take (k+1)):=qh (by rw[List.take_add_one,HPK.out];rfl)
     rw[hkA.out]at hO6;have p51:=HB5x.out.cell 1;have p51a:=(HB5x.out.alloc (.cells (cellC (kk,false,vd)).toArray 155)).cell 1;have g51:=hb5.cell 1;have f51:=hb5.frozen 1;have hB5:=hb5.set_ 1 (.slice A6 (k+1) c6);simp only[qA,qZ,qS,qsA,qsS,qsZ]at p51 p51a g51 hB5;have HB5':=qh hB5;have HB2':=qh (hb2.far (p:=⟨q5,1,none⟩) (by have:=HQ5.out;simp only;omega) (.slice A6 (k+1) c6))
     have HR':=qh (hra.upd (Upd.one w6 q5 1 (.slice A6 (k+1) c6)) (by have:=HRQ.out;omega) (noU8_blk hb5 (by decide)))
     have HO':=qh (hO6.upd (Upd.one w6 q5 1 (.slice A6 (k+1) c6)) fun q hq e=>by
      obtain⟨cs,hc⟩:=hO6.is_cells hq;exact Blk.ne_ (show Blk w6 q _ cs from hc) hb5 (by decide) e)
     have HU':Hid (Upd (fun x=>w.heap.size≤x) w (w6.setCell ⟨q5,1,none⟩ (.slice A6 (k+1) c6))):=qh (((HUx.out.alloc (.cells (cellC (kk,false,vd)).toArray 155)).trans hu6 fun q _ e=>(hown q e).1).setCell (p:=⟨q5,1,none⟩) (fun _=>by have:=HQ5.out;simp only;omega) _)
     have hcc:(cellC (kk,false,vd)).toArray=#[strV kk,.bool false,strV vd]:=rfl;rw[hcc]at hrun p51a;have HRUN:=qh hrun;clear hrow hO6 hu6 hlk hown hb5 hb2 hra hB5 hcc hrun;go_wp2_with (at_builtin;refine wpList_append_run rfl _ _ _ rfl rfl rfl HRUN.out ?_)
     go_roundw
     case rel=>exact⟨k+1,A6,c6,by go_num,by omega,HR'.out,HB5'.out,HB2'.out,HO'.out,HU'.out⟩
     case measure=>simp[intOf];omega
   | true=>
     have hq:=Blk.new w6' 155 #[strV kk,.bool true,strV []];have hua:=(Upd.refl Nowhere w6').alloc (.cells #[strV kk,.bool true,strV []] 155);have HQ:=qh hq;have q1:=hq.cell 1;simp only[qA,qZ,qS]at q1;have HRy:=qh (HR6.out.upd hua id fun _ h=>absurd h id)
     have HB5y:=qh (HB5b.out.upd hua id);have HB2y:=qh (HB2d.out.upd hua id);have HOy:=qh (HO6.out.upd hua fun _ _=>id)
     have HUy:=qh (HU6.out.alloc (.cells #[strV kk,.bool true,strV []] 155));have hRq:w6'.heap.size≠R:=by have:=HR6.out.lt;omega
     have h5q:w6'.heap.size≠q5:=by have:=HB5b.out.lt;omega
     have h2q:w6'.heap.size≠w.heap.size:=by have:=HB2d.out.lt;omega
     have hoq:(Value.slice Ak k ck).ownBlock≠some w6'.heap.size:=fun e=>by have:=HO6.out.lt e;omega
     have hwq:w.heap.size≤w6'.heap.size:=by have:=HB2d.out.lt;omega
     clear hq hua;go_wp2_with fail
     obtain⟨q6,hq6⟩:∃q6,w6'.heap.size=q6:=⟨_,rfl⟩;obtain⟨wX,hwX⟩:∃wX,w6'.alloc (.cells #[strV kk,.bool true,strV []] 155)=wX:=⟨_,rfl⟩;rw[hwX]at HQ HRy HB5y HB2y HOy HUy q1 ⊢;rw[hq6]at HQ hRq h5q h2q hoq hwq q1 ⊢;have hcv:=cell_val HOK.out rfl (restB L (k+1) r);simp only[if_true]at hcv;have HRy':Hid (RAt wX R (textB vd++restB L (k+1) r,0)):=qh (by have:=HRy.out;simpa using this)
     have HCV:=qh hcv;have hll:(textB vd++restB L (k+1) r).length≤1000:=by have:=HFL.out;simp at this;simp;omega
     clear hwX hq6 hcv HRy;refine(rtext_ok HRy'.out (by simp only;exact Nat.le_trans hll (by decide)) 32 (by omega)).mono ?_
     rintro e w7 ⟨rfl,hR7,hu7⟩;have e7:(textR 32 (textB vd++restB L (k+1) r,0)).1=vd:=by rw[HCV.out]
     rw[HCV.out]at hR7;simp only at hR7;rw[e7];have hb6:=HQ.out.upd hu7 hRq;have g2:=hb6.cell 2;have f2:=hb6.frozen 2;have hb6s:=hb6.set_ 2 (strV vd);have q0:=hb6s.cell 0;have q1':=hb6s.cell 1;have q2:=hb6s.cell 2;simp only[qA,qZ,qS,qsA,qsS,qsZ]at g2 q0 q1' q2;have HRx:=qh (hR7.upd (Upd.one w7 q6 2 (strV vd)) (fun e=>hRq e.symm) (noU8_blk hb6 (by decide)))
     have HB5x:=qh ((HB5y.out.upd hu7 (by have:=HRQ.out;omega)).upd (Upd.one w7 q6 2 (strV vd)) fun e=>h5q e.symm)
     have HB2x:=qh ((HB2y.out.upd hu7 (by omega)).upd (Upd.one w7 q6 2 (strV vd)) fun e=>h2q e.symm)
     have HOx:=qh ((HOy.out.upd hu7 fun q hq e=>by
      obtain⟨cs,hc⟩:=HOy.out.is_cells hq;obtain⟨_,_,_,hRB,_⟩:=HRy'.out.ex;exact Blk.ne_ (show Blk wX q _ cs from hc) hRB (by decide) e).upd (Upd.one w7 q6 2 (strV vd)) fun q hq e=>hoq (e▸hq))
     have HUx:=qh ((HUy.out.trans hu7 fun k _ e=>by omega).setCell (p:=⟨q6,2,none⟩) (fun _=>hwq) (strV vd))
     clear hR7 hu7 e7 hb6 hb6s HRy' HB5y HB2y HOy HUy hRq h5q h2q hoq hwq q1 hll;go_upto_region 8 with(fail)
     clear g2 f2;obtain⟨w8,hw8⟩:∃w8,w7.setCell ⟨q6,2,none⟩ (strV vd)=w8:=⟨_,rfl⟩;rw[hw8]at HRx HB5x HB2x HOx HUx q0 q1' q2 ⊢;clear hw8;have hrow:=Blk.new w8 155 (cellC (kk,true,vd)).toArray;obtain⟨A6,c6,w6,hrun,hO6,hu6⟩:=cell_row.appU (HOx.out.alloc (.cells (cellC (kk,true,vd)).toArray 155)) (by have:=HUx.out.size;simp;omega) 70 (one_els hrow) (by have:=List.length_take_le k L;have:=HPL.out.len;simp only[qls,qlt]at*;omega)
     simp only[qls]at hrun hO6;have hlk:(L.take k).length=k:=by rw[qlt,HN.out];omega
     rw[hlk]at hrun hO6
     have hown:∀q,(Value.slice Ak k ck).ownBlock=some q→w.heap.size≤q∧q≠R∧q≠q5∧q≠w.heap.size:=fun q hq=>by
      obtain⟨cs,hc⟩:=HOx.out.is_cells hq;obtain⟨_,_,_,hRB,_⟩:=HRx.out.ex;refine⟨HOx.out.new q hq,fun e=> ?_,fun e=> ?_,fun e=> ?_⟩
      ·exact Blk.ne_ (show Blk w8 q _ cs from hc) hRB (by decide) e
      ·exact Blk.ne_ (show Blk w8 q _ cs from hc) HB5x.out (by decide) e
      ·exact Blk.ne_ (show Blk w8 q _ cs from hc) HB2x.out (by decide) e
     have hb5:=(HB5x.out.alloc (.cells (cellC (kk,true,vd)).toArray 155)).upd hu6 fun e=>(hown q5 e).2.2.1 rfl
     have hb2:=(HB2x.out.alloc (.cells (cellC (kk,true,vd)).toArray 155)).upd hu6 fun e=>(hown w.heap.size e).2.2.2 rfl
     have hra:=(HRx.out.upd ((Upd.refl Nowhere w8).alloc (.cells (cellC (kk,true,vd)).toArray 155)) id fun _ h=>absurd h id).upd hu6 (fun e=>(hown R e).2.1 rfl) fun q hq h8=>by
      obtain⟨cs,hc⟩:=(HOx.out.alloc (.cells (cellC (kk,true,vd)).toArray 155)).is_cells hq;obtain⟨cs',fz,hc'⟩:=h8;rw[hc]at hc';injection hc' with hc'
      injection hc' with _ e _
      exact absurd e (by decide)
     have hkA:Hid ((L.take k)++[(kk,true,vd)]=L.take (k+1)):=qh (by rw[List.take_add_one,HPK.out];rfl)
     rw[hkA.out]at hO6;have p51:=HB5x.out.cell 1;have p51a:=(HB5x.out.alloc (.cells (cellC (kk,true,vd)).toArray 155)).cell 1;have g51:=hb5.cell 1;have f51:=hb5.frozen 1;have hB5:=hb5.set_ 1 (.slice A6 (k+1) c6);simp only[qA,qZ,qS,qsA,qsS,qsZ]at p51 p51a g51 hB5;have HB5':=qh hB5;have HB2':=qh (hb2.far (p:=⟨q5,1,none⟩) (by have:=HQ5.out;simp only;omega) (.slice A6 (k+1) c6))
     have HR':=qh (hra.upd (Upd.one w6 q5 1 (.slice A6 (k+1) c6)) (by have:=HRQ.out;omega) (noU8_blk hb5 (by decide)))
     have HO':=qh (hO6.upd (Upd.one w6 q5 1 (.slice A6 (k+1) c6)) fun q hq e=>by
      obtain⟨cs,hc⟩:=hO6.is_cells hq;exact Blk.ne_ (show Blk w6 q _ cs from hc) hb5 (by decide) e)
     have HU':Hid (Upd (fun x=>w.heap.size≤x) w (w6.setCell ⟨q5,1,none⟩ (.slice A6 (k+1) c6))):=qh (((HUx.out.alloc (.cells (cellC (kk,true,vd)).toArray 155)).trans hu6 fun q _ e=>(hown q e).1).setCell (p:=⟨q5,1,none⟩) (fun _=>by have:=HQ5.out;simp only;omega) _)
     have hcc:(cellC (kk,true,vd)).toArray=#[strV kk,.bool true,strV vd]:=rfl;rw[hcc]at hrun p51a;have HRUN:=qh hrun;clear hrow hO6 hu6 hlk hown hb5 hb2 hra hB5 hcc hrun;go_wp2_with (at_builtin;refine wpList_append_run rfl _ _ _ rfl rfl rfl HRUN.out ?_)
     go_roundw
     case rel=>exact⟨k+1,A6,c6,by go_num,by omega,HR'.out,HB5'.out,HB2'.out,HO'.out,HU'.out⟩
     case measure=>simp[intOf];omega
  ·have e:k=n:=by omega
   subst e;have hi:¬(k:Int)<(k:Int):=by omega
   have hLL:L.take k=L:=by rw[←HN.out,List.take_length]
   rw[hLL]at hOr
   have hsp:∀_:Nat,(Value.slice Ak k ck).ownBlock=some w.heap.size→False:=fun _ hk=>by
    obtain⟨cs,hc⟩:=hOr.is_cells hk;exact Blk.ne_ (show Blk wr w.heap.size _ cs from hc) hB2r (by decide) rfl
   have p50:=hBr.cell 0;have p51:=hBr.cell 1;have HRr:=qh hRr;have HBr:=qh hBr;have HB2r:=qh hB2r;have HOr:=qh hOr;have HUr:=qh hur;simp only[qA,qZ,qS]at p50 p51;have HSP:=qh hsp;clear hRr hBr hB2r hOr hur hLL hsp;go_wp2_with fail
   refine(rerr_ok HRr.out).mono ?_;rintro e w5 ⟨rfl,rfl⟩;go_wp2_with fail
   have hce:=HOr.out.cellsE;have hpm:=pmay_ok (p:=⟨lsn,L⟩) hce HPL.out;refine hpm.mono ?_;rintro e w9 ⟨rfl,hu9⟩;have hb5:=HBr.out.upd hu9 id;have hb2:=HB2r.out.upd hu9 id;have r0:=hb5.cell 0;have r1:=hb5.cell 1;have f0:=hb2.frozen 0;have f1:=hb2.frozen 1;have t0':=hb2.cell 0;have t1':=hb2.cell 1;have hbz:=(hb2.set_ 0 (.int .i64 (lsn:Nat))).set_ 1 (.slice Ak k ck);have s0:=hbz.cell 0;have s1:=hbz.cell 1;simp only[qA,qZ,qS,qsA,qsS,qsZ]at r0 r1 t0' t1' s0 s1;have HOF:Hid (OwnC w.heap.size ((w9.setCell ⟨w.heap.size,0,none⟩ (.int .i64 (lsn:Nat))).setCell ⟨w.heap.size,1,none⟩ (.slice Ak k ck)) (.slice Ak k ck) L):=qh (((HOr.out.upd hu9 fun _ _=>id).upd (Upd.one _ w.heap.size 0 _) fun q hq e=>HSP.out 0 (e▸hq)).upd (Upd.one _ w.heap.size 1 _) fun q hq e=>HSP.out 0 (e▸hq))
   have HUF:Hid (Upd Nowhere w ((w9.setCell ⟨w.heap.size,0,none⟩ (.int .i64 (lsn:Nat))).setCell ⟨w.heap.size,1,none⟩ (.slice Ak k ck))):=qh ((((HUr.out.mono fun q hq e=>by omega:Upd Nowhere w _).same hu9).setCell (p:=⟨w.heap.size,0,none⟩) (fun h=>by simp only at h;omega) _).setCell (p:=⟨w.heap.size,1,none⟩) (fun h=>by simp only at h;omega) _)
   clear hce hpm hb5 hb2 hbz hu9 p50 p51;go_wp2_with fail
   exact bodyPost_ret (v:= .tuple #[.agg #[.int .i64 (lsn:Nat),.slice Ak k ck],.int .i64 0]) (by simp[results,Tryz.results148,go_sem,s0,s1]) rfl ⟨Ak,ck,rfl,HOF.out,HUF.out⟩
end Go.Proofs.YtdfccegeihfdpaaGreatDoor
