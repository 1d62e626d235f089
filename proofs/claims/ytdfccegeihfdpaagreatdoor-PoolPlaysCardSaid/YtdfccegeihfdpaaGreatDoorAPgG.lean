/-
  Contracts of layer 11: place, read, Save, Load.
-/
import Derived.Test.YtdfccegeihfdpaaGreatDoorAPgE
import Derived.Test.YtdfccegeihfdpaaGreatDoorAPgF
import Derived.Test.YtdfccegeihfdpaaGreatDoorAPoE
set_option maxRecDepth 100000
set_option maxHeartbeats 4000000
namespace Go.Proofs.YtdfccegeihfdpaaGreatDoor
open Go Go.RowKit
theorem place_ok(n turn:Nat)(hn:n≤4096)(ht:turn≤1099511627776)(w:World):Calls Tryz.prog 94 #[.int .i64 202,.int .i64 (n:Nat),.int .i64 (turn:Nat)] w fun e w'=>e= .returned (.tuple #[.int .i64 (slotN n turn),.int .i64 0])∧w'=w:=by
 have h1:(n:Int)≤4096:=by omega
 have h2:¬(4096:Int)<(n:Int):=by omega
 have hand:=i64_and1 turn (by omega)
 have hs:slotN n turn=202+2 * (n:Int)+((turn % 2:Nat):Int):=by unfold slotN;omega
 have HS:=qh hs;have hm:turn % 2<2:=Nat.mod_lt _ (by omega)
 obtain⟨m,hmm⟩:∃m,turn % 2=m:=⟨_,rfl⟩;rw[hmm]at hand hm HS;have hmI:(m:Int)<2:=by omega
 clear hs hmm ht hn;go_enter Tryz.func94,Tryz.ntmps94
 go_wp2_with fail
 go_ret2;exact⟨by rw[HS.out];rfl,rfl⟩
theorem slotN_nat(n turn:Nat):slotN n turn=((202+2 * n+turn % 2:Nat):Int):=rfl
theorem sread_ok{w:World}{v:Value}{t:Nat}{p:PgP}(hE:BytesE w v (padB 254 (payB t p)))(hp:p.ok)(h1:t≤1099511627776):Calls Tryz.prog 96 #[v] w fun e w'=>∃A c,e= .returned (.tuple #[.agg #[.int .i64 (p.lsn:Nat),.slice A p.cells.length c],.int .i64 (t:Nat)])∧OwnC w.heap.size w' (.slice A p.cells.length c) p.cells∧Upd Nowhere w w':=by
 obtain⟨r,hr⟩:=padB_pay t p;have hl:=padB_len (b:=payB t p) (by have:=payB_len h1 hp;omega)
 rw[hr]at hE hl;obtain⟨q,hq⟩:∃q,p.enc++r=q:=⟨_,rfl⟩;rw[hq]at hE hl;have hnr:=numR_short h1 (by omega) q
 have hst6:=shortB_6 h1;have hstp:=shortB_pos t;have hdrop:(shortB t++q).drop (shortB t).length=q:=List.drop_left;obtain⟨B,hB⟩:∃B,shortB t++q=B:=⟨_,rfl⟩;have hlq:q.length=254 - (shortB t).length:=by rw[qla]at hl;omega
 obtain⟨st,hst⟩:∃st,(shortB t).length=st:=⟨_,rfl⟩;rw[hB]at hE hl hnr hdrop;rw[hst]at hst6 hstp hlq hdrop;obtain⟨bb,off,c0,hv,hbb,_⟩:=Reads.addr hE (by rw[hl];decide)
 obtain⟨_,c0',e0,hc0⟩:=hE.val;subst hv
 cases e0;rw[hl]at hE hc0 ⊢;have hB0:=Blk.new w 72 #[.int .i64 0,.slice none 0 0];have HB0:=qh hB0;have HU0:=qh ((Upd.refl Nowhere w).alloc (.cells #[.int .i64 0,.slice none 0 0] 72));have HE:=qh (hE.alloc (.cells #[.int .i64 0,.slice none 0 0] 72));have HBB:Hid (bb<w.heap.size):=qh hbb;have HL:=qh hl;have HNR:=qh hnr;have HDR:=qh hdrop;have HQ:=qh hq;have HPO:=qh hp;have HLQ:=qh hlq;clear hE hnr hdrop hq hp hB hst h1 hB0 hr hl hbb;go_enter Tryz.func96,Tryz.ntmps96
 go_wp2_with fail
 generalize w.alloc (.cells #[.int .i64 0,.slice none 0 0] 72)=wA at*;have hrd:=read_ok HE.out (by rw[HL.out];omega)
 refine hrd.mono ?_;rintro e w1 ⟨R,rfl,hR,hRA,hu1⟩;have HRA:=qh hRA;have HU1:=qh (HU0.out.same hu1);have HB1:=qh (HB0.out.upd hu1 id);have HE1:=qh (HE.out.upd hu1 fun _ _=>id)
 have hRw:w.heap.size<R:=by have:=HB0.out.lt;omega
 have HBE:Hid (∀k,(Value.slice (some ⟨bb,off,none⟩) 254 c0).ownBlock=some k→k≠R):=qh fun k hk e=>by
  simp only[Value.ownBlock,Option.some.injEq]at hk;have:=HBB.out;omega
 have HBL:Hid (bb<w1.heap.size):=qh (by have:=HBB.out;have:=hu1.size;have:=HU0.out.size;omega)
 clear hrd hRA hu1 hR;go_wp2_with fail
 refine(rnum_ok HRA.out (by rw[HL.out];omega) 1099511627776 (by omega)).mono ?_
 rintro e w2 ⟨rfl,hR2,hu2⟩;have e1:(numR 1099511627776 (B,0)).1=t:=by rw[HNR.out]
 rw[HNR.out]at hR2;rw[e1];simp only at hR2;have HR2:=qh hR2;have HB2:=qh (HB1.out.upd hu2 (by omega))
 have HU2:=qh (HU1.out.trans hu2 fun k hk e=>by omega)
 have HE2:=qh (HE1.out.upd hu2 fun k hk e=>by
  obtain⟨_,_,_,hRB,_⟩:=HRA.out.ex;exact HBE.out k hk (by omega))
 have HUS:Hid (w1.heap.size≤w2.heap.size):=qh hu2.size;clear hR2 hu2 e1 HE1 HE HRA;go_wp2_with fail
 refine(rerr_ok HR2.out).mono ?_;rintro e w3 ⟨rfl,rfl⟩;go_wp2_with fail
 refine(rleft_ok HR2.out).mono ?_;rintro e w4 ⟨rfl,rfl⟩;simp only;obtain⟨m,hm⟩:∃m,q.length=m:=⟨_,rfl⟩;have hmq:=HLQ.out;rw[hm]at hmq ⊢;have hsub:(254:Int) - (m:Int)=(st:Int):=by omega
 have hm254:(m:Int)≤254:=by omega
 have hst1:(st:Int)≤254:=by omega
 have hst2:st≤254:=by omega
 have hcs:¬c0=st:=by omega
 have hc0':(254:Int)≤(c0:Int):=by omega
 have hpart:=Els.part byteC_len HE2.out st (254 - st) (by rw[HL.out];omega) (by omega:254 - st≤c0 - st) (by have:=HBL.out;have:=HU2.out.size;exact Nat.lt_of_lt_of_le HBL.out HUS.out)
 rw[Nat.mul_one,HDR.out,List.take_of_length_le (by rw[hm];omega),←HQ.out]at hpart
 have hdec:=pdec_ok hpart HPO.out (by rw[HQ.out,hm];omega)
 have HDEC:=qh hdec;clear hm hmq hpart hdec hst6;go_wp2_with fail
 refine HDEC.out.mono ?_;rintro e w5 ⟨A5,c5,rfl,hO5,hu5⟩;have hb2:=((HB2.out.upd hu5 id).alloc (.cells #[.int .i64 (p.lsn:Nat),.slice A5 p.cells.length c5] 72));have hq:=Blk.new w5 72 #[.int .i64 (p.lsn:Nat),.slice A5 p.cells.length c5];have hne5:w.heap.size≠w5.heap.size:=by have:=(HB2.out.upd hu5 id).lt;omega
 have q0:=hq.cell 0;have q1:=hq.cell 1;have f0:=hb2.frozen 0;have f1:=hb2.frozen 1;have t0':=hb2.cell 0;have t1':=hb2.cell 1;have hbz:=(hb2.set_ 0 (.int .i64 (p.lsn:Nat))).set_ 1 (.slice A5 p.cells.length c5);have s0:=hbz.cell 0;have s1:=hbz.cell 1;simp only[qA,qZ,qS,qsA,qsS,qsZ]at q0 q1 t0' t1' s0 s1;have hsz2:=HU2.out.size;have hblk2:=HB2.out.lt;have HOF:Hid (OwnC w.heap.size (((w5.alloc (.cells #[.int .i64 (p.lsn:Nat),.slice A5 p.cells.length c5] 72)).setCell ⟨w.heap.size,0,none⟩ (.int .i64 (p.lsn:Nat))).setCell ⟨w.heap.size,1,none⟩ (.slice A5 p.cells.length c5)) (.slice A5 p.cells.length c5) p.cells):=qh ((((hO5.far (B':=w.heap.size) fun k hk=>by have:=hO5.new k hk;omega).alloc _).upd (Upd.one _ w.heap.size 0 _) fun k hk e=>by have:=hO5.new k hk;omega).upd (Upd.one _ w.heap.size 1 _) fun k hk e=>by have:=hO5.new k hk;omega)
 have HUF:Hid (Upd Nowhere w (((w5.alloc (.cells #[.int .i64 (p.lsn:Nat),.slice A5 p.cells.length c5] 72)).setCell ⟨w.heap.size,0,none⟩ (.int .i64 (p.lsn:Nat))).setCell ⟨w.heap.size,1,none⟩ (.slice A5 p.cells.length c5))):=qh ((((HU2.out.same hu5).alloc _).setCell (p:=⟨w.heap.size,0,none⟩) (fun h=>by simp only at h;omega) _).setCell (p:=⟨w.heap.size,1,none⟩) (fun h=>by simp only at h;omega) _)
 have HNE5:=qh hne5;clear hb2 hq hbz hu5 hO5 hsz2 hblk2 hne5;go_wp2_with fail
 exact bodyPost_ret (v:= .tuple #[.agg #[.int .i64 (p.lsn:Nat),.slice A5 p.cells.length c5],.int .i64 (t:Nat)]) (by simp[results,Tryz.results96,go_sem,s0,s1]) rfl ⟨A5,c5,rfl,HOF.out,HUF.out⟩
theorem ssave_ok{w:World}{d:DkP}{D:DiskS}(h:DiskAt w d D)(hfu:D.fuse≤9223372036854775807)(hsy:0≤D.syncs∧D.syncs≤3000000000)(n turn:Nat)(hn:n≤100)(hsz:204+2 * n≤D.size)(hrd:∀k:Int,(D.read k).length=256)(hpl:D.pend.length≤80000)(h1:1≤turn)(h2:turn≤1099511627776){v:Value}{p:PgP}(hv:CellsE w v p.cells)(hp:p.ok):Calls Tryz.prog 137 #[.pointer (some ⟨d.d,0,none⟩),.int .i64 202,.int .i64 (n:Nat),.int .i64 (turn:Nat),.agg #[.int .i64 (p.lsn:Nat),v]] w (PutP d (saveS D n turn p).1 (saveS D n turn p).2 w):=by
 obtain⟨A,c,rfl,hcap⟩:=hv.val;have HB0:=qh (Blk.new w 72 #[.int .i64 (p.lsn:Nat),.slice A p.cells.length c]);have hua:=(Upd.refl Nowhere w).alloc (.cells #[.int .i64 (p.lsn:Nat),.slice A p.cells.length c] 72);have HU0:=qh hua;have HC:=qh (hv.up hua);have HDW:=qh h;have HP:=qh hp;have HDL:Hid (∀k,d.foot k→k<w.heap.size):=qh h.lt;have hdlt:d.d<w.heap.size:=h.lt _ (.inl rfl);have t1:¬(turn:Int)<1:=by omega
 have t2:¬(1099511627776:Int)<(turn:Int):=by omega
 have b0:=HB0.out.cell 0;have b1:=HB0.out.cell 1;simp only[qA,qZ,qS]at b0 b1;have HT:=qh (show 1≤turn∧turn≤1099511627776 from⟨h1,h2⟩)
 have HK:=qh (show D.fuse≤9223372036854775807∧(0≤D.syncs∧D.syncs≤3000000000)∧n≤100∧204+2 * n≤D.size∧(∀k:Int,(D.read k).length=256)∧D.pend.length≤80000 from⟨hfu,hsy,hn,hsz,hrd,hpl⟩)
 clear hv hua h hp hfu hsy hn hsz hrd hpl h1 h2;go_enter Tryz.func137,Tryz.ntmps137
 go_wp2_with fail
 refine(place_ok n turn (by have:=HK.out.2.2.1;omega) HT.out.2 _).mono ?_
 rintro e w1 ⟨rfl,rfl⟩;go_wp2_with fail
 refine(penc_ok HC.out HP.out).mono ?_;rintro e w2 ⟨A2,c2,rfl,hO2,hu2⟩;have HO2:=qh (hO2.far (B':=w.heap.size) fun k hk=>by have:=hO2.new k hk;have:=HB0.out.lt;omega)
 have HU2:=qh (HU0.out.same hu2);have hz2:w.heap.size<w2.heap.size:=by have:=HB0.out.lt;have:=hu2.size;omega
 have HPB:Hid (payB turn p=shortB turn++p.enc):=qh rfl;have HPBL:=qh (payB_len HT.out.2 HP.out);obtain⟨PB,hPB⟩:∃PB,payB turn p=PB:=⟨_,rfl⟩;obtain⟨EN,hEN⟩:∃EN,p.enc=EN:=⟨_,rfl⟩;rw[hPB,hEN]at HPB;rw[hPB]at HPBL;rw[hEN]at HO2 ⊢;have HSV:Hid (saveS D n turn p=if (D.put (slotN n turn) PB).2≠0 then D.put (slotN n turn) PB else (D.put (slotN n turn) PB).1.sync):=qh (by rw[←hPB];rfl)
 have HENL:Hid (EN.length≤216):=qh (by rw[←hEN];exact PgP.enc_len HP.out)
 clear hO2 hu2 b0 b1 hPB hEN;have hw:=(⟨⟨none,0,Blk.new _ _ _,OwnR.nil _ _ _ _ _⟩,qlr _⟩:WAt w2.heap.size (w2.alloc (.cells #[.slice none 0 0] 193)) w2.heap.size []);have HW:=qh hw;have HU3:=qh (HU2.out.alloc (.cells #[.slice none 0 0] 193));have HO3:=qh (HO2.out.alloc (.cells #[.slice none 0 0] 193));have HOL:Hid (∀k,(Value.slice A2 EN.length c2).ownBlock=some k→k<w2.heap.size):=qh fun k hk=>HO2.out.lt hk
 clear hw;go_wp2_with fail
 obtain⟨W,hW⟩:∃W,w2.heap.size=W:=⟨_,rfl⟩;obtain⟨w3,hw3⟩:∃w3,w2.alloc (.cells #[.slice none 0 0] 193)=w3:=⟨_,rfl⟩;rw[hw3,hW]at HW;rw[hw3]at HU3 HO3 ⊢;rw[hW]at hz2 HOL ⊢;clear hW hw3;refine(wnum2_ok HW.out turn (by have:=HT.out;omega) (by simp)).mono ?_
 rintro e w4 ⟨rfl,hW4,hu4⟩;rw[List.nil_append]at hW4;have HW4:=qh hW4
 have HU4:=qh (HU3.out.trans hu4 fun k hk e=>by
  rcases e with e | e
  ·omega
  ·omega)
 have HO4:=qh (HO3.out.upd hu4 fun k hk e=>by
  have:=HOL.out k hk
  rcases e with e | e
  ·omega
  ·omega)
 clear hW4 hu4;go_wp2_with fail
 have hst6:=shortB_6 HT.out.2;refine(wbytes_ok HW4.out (by omega)).mono ?_
 rintro e w5 ⟨A5,c5,rfl,hO5,hu5⟩;obtain⟨A6,c6,w6,hrun,hO6,hu6⟩:=byte_row.appU hO5 hu5.size 143 (HO4.out.upd hu5 fun _ _=>id).els (by have:=HENL.out;omega)
 rw[←HPB.out]at hO6;have hlen:(shortB turn).length+EN.length=PB.length:=by rw[HPB.out,qla]
 rw[hlen]at hrun hO6;have HRUN:=qh hrun;have HO6:=qh hO6;have HU6:=qh ((HU4.out.same hu5).trans hu6 fun k hk e=>by have:=hO5.new k e;have:=HU4.out.size;omega)
 clear hO5 hu5 hrun hO6 hu6 hst6 hlen;go_wp2_with (at_builtin;refine wpList_append_run rfl _ _ _ rfl rfl rfl HRUN.out ?_)
 have hput:=put_sector (p:=d) (h:=HDW.out.up HU6.out) HK.out.1 (202+2 * n+turn % 2) (by have:=HK.out.2.2.2.1;omega) (HK.out.2.2.2.2.1 _) HO6.out.els (by have:=HPBL.out;omega) (by have:=HK.out.2.2.2.2.2;omega)
 rw[←slotN_nat]at hput;refine hput.mono ?_;rintro e w7 ⟨v7,rfl,hD7,hU7,hN7⟩;have hkp:=put_keeps D (slotN n turn) PB;obtain⟨⟨D1,x⟩,hDx⟩:∃t,D.put (slotN n turn) PB=t:=⟨_,rfl⟩;rw[hDx]at hD7 hkp HSV ⊢;simp only at hD7 hkp HSV ⊢;have HD7:=qh hD7;have HU7:=qh (HU6.out.any.trans hU7 fun k hk e=>e)
 have HN7:Hid (NewV w d.v v7):=qh fun k hk=>(hN7 k hk).imp id fun e=>by have:=HU6.out.size;omega
 have HKP:=qh hkp;clear hD7 hU7 hN7 hDx hkp hput HRUN;by_cases hx:x=0
 ·have hs:=HSV.out;rw[if_neg (by simp[hx])]at hs
  have HS2:=qh hs;have hsy:=dsync_any HD7.out (HKP.out.1 HK.out.1) (by rw[HKP.out.2.1];have:=HK.out.2.1;omega)
  have HSY:=qh hsy;subst hx;clear hs hsy HSV;go_wp2_with fail
  refine HSY.out.mono ?_;rintro e w8 ⟨v8,rfl,hD8,hU8,hN8⟩;have HD8:=qh hD8;have HU8:=qh (foot_step HU7.out HN7.out hU8);have HN8:=qh (HN7.out.trans hN8 HU7.out.size);clear hD8 hU8 hN8;go_wp2_with fail
  go_ret;rw[HS2.out];exact⟨v8,rfl,HD8.out,HU8.out,HN8.out⟩
 ·have hs:=HSV.out;rw[if_pos (by simpa using hx)]at hs
  have HS2:=qh hs;have hxb:(x == 0)=false:=by simpa using hx
  clear hs HSV;go_wp2_with fail
  go_ret;rw[HS2.out];exact⟨v7,rfl,HD7.out,HU7.out,HN7.out⟩
def GetIs(D:DiskS)(k:Int):Sl PgP→Prop
 | none=>D.get k=none
 | some (t,p)=>D.get k=some (padB 254 (payB t p))
theorem SlotIs.got{D:DiskS}{k:Int}{s:Sl PgP}(h:SlotIs D k s):GetIs D k s:=by
 match s,h with
 | none,h=>exact SlotIs.get (s:=none) h
 | some (t,p),h=>exact SlotIs.get (s:=some (t,p)) h
def bstS(s:Sl PgP×Sl PgP):Nat→PgP×Nat
 | 0=>(pg0,0)
 | 1=>pickS 0 s.1 (pg0,0)
 | _=>pickS 1 s.2 (pickS 0 s.1 (pg0,0))
theorem sload_ok{w:World}{d:DkP}{D:DiskS}(h:DiskAt w d D)(hd:D.down=false)(n:Nat)(hn:n≤100)(hsz:204+2 * n≤D.size){s:Sl PgP×Sl PgP}{q:PgP}{t:Nat}(hs:PlaceIs D n s q t):Calls Tryz.prog 33 #[.pointer (some ⟨d.d,0,none⟩),.int .i64 202,.int .i64 (n:Nat)] w fun e w'=>∃A c,e= .returned (.tuple #[.agg #[.int .i64 (q.lsn:Nat),.slice A q.cells.length c],.int .i64 (t:Nat),.int .i64 0])∧OwnC w.heap.size w' (.slice A q.cells.length c) q.cells∧Upd Nowhere w w':=by
 have hz1:(w.alloc (.cells #[.int .i64 0,.slice none 0 0] 72)).heap.size=w.heap.size+1:=by simp
 have hua:=((Upd.refl Nowhere w).alloc (.cells #[.int .i64 0,.slice none 0 0] 72)).alloc (.cells #[.int .i64 0,.slice none 0 0] 72);have HU0:=qh hua;have HBa:=qh ((Blk.new w 72 #[.int .i64 0,.slice none 0 0]).alloc (.cells #[.int .i64 0,.slice none 0 0] 72));have HBb:=qh (Blk.new' (w.alloc (.cells #[.int .i64 0,.slice none 0 0] 72)) 72 #[.int .i64 0,.slice none 0 0] hz1.symm);have HD:=qh (show DiskAt w d D∧D.down=false∧n≤100∧204+2 * n≤D.size from⟨h,hd,hn,hsz⟩)
 have HS:=qh hs;have hdlt:d.d<w.heap.size:=h.lt _ (.inl rfl);clear h hd hn hsz hs hua hz1;go_enter Tryz.func33,Tryz.ntmps33
 go_wp2_with fail
 generalize (w.alloc (.cells #[.int .i64 0,.slice none 0 0] 72)).alloc (.cells #[.int .i64 0,.slice none 0 0] 72)=wA at*;go_loopw [10,17] (fun s10 s17 wr=>∃(k:Nat) (A:Option Addr) (c:Nat),s17= .int .i64 (k:Int)∧k≤2∧s10= .int .i64 ((bstS s k).2:Nat)∧Blk wr (w.heap.size+1) 72 #[.int .i64 ((bstS s k).1.lsn:Nat),.slice A (bstS s k).1.cells.length c]∧OwnC w.heap.size wr (.slice A (bstS s k).1.cells.length c) (bstS s k).1.cells∧Blk wr w.heap.size 72 #[.int .i64 0,.slice none 0 0]∧Upd Nowhere w wr) (fun _ s17 _=>2 - (intOf s17).toNat)
 case atStart=>exact⟨0,none,0,rfl,by omega,rfl,HBb.out,OwnR.nil _ _ _ _ _,HBa.out,HU0.out⟩
 case round=>
  obtain⟨k,A,c,rfl,hk,rfl,hB,hO,hBz,hu⟩:=hrel;have HB:=qh hB;have HO:=qh hO;have HBZ:=qh hBz;have HU:=qh hu;by_cases hlt:k<2
  ·obtain⟨o,hnext,hslot⟩:∃o,bstS s (k+1)=pickS k o (bstS s k)∧SlotIs D (slotN n k) o:=by
    rcases(by omega:k=0∨k=1) with rfl | rfl
    ·exact⟨s.1,rfl,HS.out.even⟩
    ·exact⟨s.2,rfl,HS.out.odd⟩
   have HNX:=qh hnext;have HSL:=qh hslot;have hi:(k:Int)<2:=by omega
   have hkm:k % 2=k:=Nat.mod_eq_of_lt hlt;obtain⟨b,hb⟩:∃b,bstS s k=b:=⟨_,rfl⟩;obtain⟨bp,bt⟩:=b;rw[hb]at HNX HB HO;have HBQ:=qh hb;simp only at HB HO;have HGET:=qh hslot.got;have HLEN:=qh hslot.len;have HDk:=qh (HD.out.1.up hu);have ebt:(bstS s k).2=bt:=by rw[hb]
   rw[ebt];have hkk:k % 2=k:=hkm;have HKM:=qh hkm;clear hB hO hBz hu hnext hslot hb ebt hkm hkk;go_wp2_with fail
   refine(place_ok n k (by have:=HD.out.2.2.1;omega) (by omega) _).mono ?_
   rintro e w1 ⟨rfl,rfl⟩;go_wp2_with fail
   have hsn:202+2 * n+k % 2<D.size:=by have:=HD.out.2.2.2;omega
   cases o with
   | none=>
     have hg:=get_torn HDk.out (202+2 * n+k % 2) hsn HD.out.2.1 HLEN.out HGET.out;rw[←slotN_nat]at hg;refine hg.mono ?_;rintro e w2 ⟨rfl,hu2⟩;have HU2:=qh hu2;clear hg hu2;go_wp2_with fail
     go_roundw
     case rel=>exact⟨k+1,A,c,by go_num,by omega,by rw[HNX.out];rfl,by rw[HNX.out];exact HB.out.upd HU2.out id,by rw[HNX.out];exact HO.out.upd HU2.out fun _ _=>id,HBZ.out.upd HU2.out id,HU.out.same HU2.out⟩
     case measure=>simp[intOf];omega
   | some tp=>
     obtain⟨t',p'⟩:=tp;have hok:=HSL.out;obtain⟨hp',h1',h2',_⟩:=hok;have hg:=get_ok HDk.out (202+2 * n+k % 2) hsn HD.out.2.1 HLEN.out HGET.out;rw[←slotN_nat]at hg;refine hg.mono ?_;rintro e w2 ⟨A2,c2,rfl,hO2,hu2⟩;have hpl:(padB 254 (payB t' p')).length=254:=padB_len (by have:=payB_len h2' hp';omega)
     have hrd:=sread_ok (v:= .slice A2 254 c2) (by have:=hO2.els;rw[←hpl];rw[←hpl]at hO2;exact hO2.els) hp' h2'
     have HRD:=qh hrd;have HU2:=qh (HU.out.same hu2);have HB2:=qh (HB.out.upd hu2 id);have HO2:=qh (HO.out.upd hu2 fun _ _=>id)
     have HBZ2:=qh (HBZ.out.upd hu2 id);have HT':=qh (show 1≤t'∧t'≤1099511627776 from⟨h1',h2'⟩)
     clear hg hu2 hO2 hpl hrd hp' h1' h2';go_wp2_with fail
     refine HRD.out.mono ?_;rintro e w3 ⟨A3,c3,rfl,hO3,hu3⟩;have hu4:=hu3.alloc (.cells #[.int .i64 (p'.lsn:Nat),.slice A3 p'.cells.length c3] 72);have HU4:=qh (HU2.out.same hu4);have hB4:=HB2.out.upd hu4 id;have HO4:=qh (HO2.out.upd hu4 fun _ _=>id)
     have HBZ4:=qh (HBZ2.out.upd hu4 id);have HO5:=qh ((hO3.far (B':=w.heap.size) fun q hq=>by have:=hO3.new q hq;have:=HU2.out.size;omega).alloc (.cells #[.int .i64 (p'.lsn:Nat),.slice A3 p'.cells.length c3] 72))
     have hq:=Blk.new w3 72 #[.int .i64 (p'.lsn:Nat),.slice A3 p'.cells.length c3];have q0:=hq.cell 0;have q1:=hq.cell 1;have f0:=hB4.frozen 0;have f1:=hB4.frozen 1;have g0:=hB4.cell 0;have g1:=hB4.cell 1;have hBs:=(hB4.set_ 0 (.int .i64 (p'.lsn:Nat))).set_ 1 (.slice A3 p'.cells.length c3);have hne:w.heap.size≠w.heap.size+1:=by omega
     simp only[qA,qZ,qS,qsA,qsS,qsZ]at q0 q1 g0 g1 hBs;have HB4:=qh hB4;have HBS:=qh hBs;have hand:=i64_and1 t' (by have:=HT'.out;omega)
     obtain⟨m,hm⟩:∃m,t' % 2=m:=⟨_,rfl⟩;rw[hm]at hand;have HM:=qh hm;have HN9:Hid (∀g c',(Value.slice A3 p'.cells.length c3).ownBlock=some g→Blk (w3.alloc (.cells #[.int .i64 (p'.lsn:Nat),.slice A3 p'.cells.length c3] 72)) c' 72 #[.int .i64 (bp.lsn:Nat),.slice A bp.cells.length c]→g≠c'):=qh fun g c' hg hc' e=>HO5.out.blk_ne hc' (by decide) (by rw[←e];exact hg)
     clear hu3 hu4 hO3 hB4 hq hBs hm HRD;by_cases h1:bt<t'
     ·have h1':(bt:Int)<(t':Int):=by omega
      have HH1:=qh h1;clear h1;by_cases h2:m=k
      ·have HH2:=qh h2;have hpick:pickS k (some (t',p')) (bp,bt)=(p',t'):=pickS_some HH1.out (by rw[HM.out];exact h2)
       rw[hpick]at HNX;subst h2;have HO6:=qh ((HO5.out.upd (Upd.one _ (w.heap.size+1) 0 (.int .i64 (p'.lsn:Nat))) fun q hq e=>HN9.out q _ hq HB4.out e).upd (Upd.one _ (w.heap.size+1) 1 (.slice A3 p'.cells.length c3)) fun q hq e=>HN9.out q _ hq HB4.out e)
       have HBZ6:=qh ((HBZ4.out.far (p:=⟨w.heap.size+1,0,none⟩) (by simp only;omega) (.int .i64 (p'.lsn:Nat))).far (p:=⟨w.heap.size+1,1,none⟩) (by simp only;omega) (.slice A3 p'.cells.length c3))
       have HU6:=qh ((HU4.out.setCell (p:=⟨w.heap.size+1,0,none⟩) (fun h=>by simp only at h;omega) (.int .i64 (p'.lsn:Nat))).setCell (p:=⟨w.heap.size+1,1,none⟩) (fun h=>by simp only at h;omega) (.slice A3 p'.cells.length c3))
       clear hpick;go_wp2_with fail
       go_roundw
       case rel=>exact⟨m+1,A3,c3,by go_num,by omega,by rw[HNX.out],by rw[HNX.out];exact HBS.out,by rw[HNX.out];exact HO6.out,HBZ6.out,HU6.out⟩
       case measure=>simp[intOf];omega
      ·have h2':((m:Int) == (k:Int))=false:=by simpa using fun e=>h2 (by omega)
       have h2'':¬(m:Int)=(k:Int):=fun e=>h2 (by omega)
       have hpick:pickS k (some (t',p')) (bp,bt)=(bp,bt):=by
        unfold pickS
        dsimp only
        rw[if_neg fun h=>h2 (by rw[←HM.out];exact h.2)]
       rw[hpick]at HNX;have HH2:=qh h2;clear h2 hpick;go_wp2_with fail
       go_roundw
       case rel=>exact⟨k+1,A,c,by go_num,by omega,by rw[HNX.out],by rw[HNX.out];exact HB4.out,by rw[HNX.out];exact HO4.out,HBZ4.out,HU4.out⟩
       case measure=>simp[intOf];omega
     ·have h1':¬(bt:Int)<(t':Int):=by omega
      have hpick:pickS k (some (t',p')) (bp,bt)=(bp,bt):=by
       unfold pickS
       dsimp only
       rw[if_neg fun h=>h1 h.1]
      rw[hpick]at HNX;have HH1:=qh h1;clear h1 hpick;go_wp2_with fail
      go_roundw
      case rel=>exact⟨k+1,A,c,by go_num,by omega,by rw[HNX.out],by rw[HNX.out];exact HB4.out,by rw[HNX.out];exact HO4.out,HBZ4.out,HU4.out⟩
      case measure=>simp[intOf];omega
  ·have e:k=2:=by omega
   subst e;have hfin:bstS s 2=(q,t):=HS.out.load;have e1:(bstS s 2).2=t:=by rw[hfin]
   rw[hfin]at hB hO HB HO;simp only at hB hO HB HO;rw[e1];have r0:=hB.cell 0;have r1:=hB.cell 1;have f0:=hBz.frozen 0;have f1:=hBz.frozen 1;have t0':=hBz.cell 0;have t1':=hBz.cell 1;have hbz:=(hBz.set_ 0 (.int .i64 (q.lsn:Nat))).set_ 1 (.slice A q.cells.length c);have s0:=hbz.cell 0;have s1:=hbz.cell 1;simp only[qA,qZ,qS,qsA,qsS,qsZ]at r0 r1 t0' t1' s0 s1;have HOF:=qh ((hO.upd (Upd.one _ w.heap.size 0 (.int .i64 (q.lsn:Nat))) fun x hx e=>hO.blk_ne hBz (by decide) (e▸hx)).upd (Upd.one _ w.heap.size 1 (.slice A q.cells.length c)) fun x hx e=>hO.blk_ne hBz (by decide) (e▸hx))
   have HUF:=qh ((hu.setCell (p:=⟨w.heap.size,0,none⟩) (fun h=>by simp only at h;omega) (.int .i64 (q.lsn:Nat))).setCell (p:=⟨w.heap.size,1,none⟩) (fun h=>by simp only at h;omega) (.slice A q.cells.length c))
   clear hB hO hBz hu hbz hfin e1 HBZ;go_wp2_with fail
   exact bodyPost_ret (v:= .tuple #[.agg #[.int .i64 (q.lsn:Nat),.slice A q.cells.length c],.int .i64 (t:Nat),.int .i64 0]) (by simp[results,Tryz.results33,go_sem,s0,s1]) rfl ⟨A,c,rfl,HOF.out,HUF.out⟩
end Go.Proofs.YtdfccegeihfdpaaGreatDoor
