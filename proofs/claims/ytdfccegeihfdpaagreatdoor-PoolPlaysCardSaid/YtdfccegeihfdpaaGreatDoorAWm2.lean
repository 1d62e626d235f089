/-
  The log and all below it: part 2 of 10 (merged by mergew.py).
-/
import Derived.Test.YtdfccegeihfdpaaGreatDoorAWm1
import Derived.Laws.CopyOwn
set_option maxRecDepth 100000
set_option maxHeartbeats 4000000
namespace Go.Proofs.YtdfccegeihfdpaaGreatDoor
open Go Go.RowKit
structure DkP where
 d:Nat
 ms:Nat
 mn:Nat
 v:Value
def DkP.foot(p:DkP)(k:Nat):Prop:=k=p.d∨k=p.ms∨k=p.mn∨p.v.ownBlock=some k
def writeC(x:Int×Bs):List Value:=[.int .i64 x.1,strV x.2]
abbrev intK:Int→Value:=fun n=> .int .i64 n
def encF(f:Int→Option Bs):Int→Option Value:=fun k=>(f k).map strV
structure DiskAt(w:World)(p:DkP)(S:DiskS):Prop where
 blk:Blk w p.d 107 #[.int .i64 S.size,.map (some p.ms),.map (some p.mn),p.v,.int .i64 S.fuse,.bool S.down,.int .i64 S.syncs]
 syn:MapIs intK w p.ms (encF S.syn)
 now:MapIs intK w p.mn (encF S.now)
 pend:OwnR 111 writeC 2 0 w p.v S.pend
 ne:p.ms≠p.mn
theorem MapIs.notU8{α:Type}{enc:α→Value}{w:World}{b:Nat}{f:α→Option Value}(h:MapIs enc w b f):¬U8 w b:=by
 obtain⟨es,ck,h1,_⟩:=h;rintro⟨cs,fz,h2⟩;rw[h1]at h2;cases h2
theorem OwnR.notU8{TE:TypeId}{α:Type}{cells:α→List Value}{sz B:Nat}{w:World}{v:Value}{L:List α}(h:OwnR TE cells sz B w v L)(ht:TE≠5){k:Nat}(hk:v.ownBlock=some k):¬U8 w k:=by
 obtain⟨cs,hc⟩:=h.is_cells hk;rintro⟨cs',fz,h2⟩;rw[hc]at h2;injection h2 with h2
 injection h2 with _ h3
 exact ht h3
theorem MapIs.not_cells{α:Type}{enc:α→Value}{w:World}{b:Nat}{f:α→Option Value}(h:MapIs enc w b f){cs:Array Value}{t:TypeId}{fz:Nat×Nat}:w.heap[b]? ≠some (.cells cs t fz):=by
 obtain⟨es,ck,h1,_⟩:=h;rw[h1];exact fun e=>by cases e
namespace DiskAt
variable {w w':World} {p:DkP} {S:DiskS} {F:Nat→Prop}
theorem lt(h:DiskAt w p S):∀k,p.foot k→k<w.heap.size:=by
 rintro k (rfl | rfl | rfl | hk)
 ·exact h.blk.lt
 ·exact h.syn.lt
 ·exact h.now.lt
 ·exact h.pend.lt hk
theorem noU8(h:DiskAt w p S):NoU8 p.foot w:=by
 rintro k (rfl | rfl | rfl | hk) h8
 ·exact h8.ne h.blk (by decide) rfl
 ·exact h.syn.notU8 h8
 ·exact h.now.notU8 h8
 ·exact h.pend.notU8 (by decide) hk h8
theorem upd(h:DiskAt w p S)(hu:Upd F w w')(hF:∀k,p.foot k→¬F k):DiskAt w' p S:=
 ⟨h.blk.upd hu (hF _ (.inl rfl)),h.syn.upd hu (hF _ (.inr (.inl rfl))),h.now.upd hu (hF _ (.inr (.inr (.inl rfl)))),h.pend.upd hu fun k hk=>hF k (.inr (.inr (.inr hk))),h.ne⟩
theorem up(h:DiskAt w p S)(hu:Upd Nowhere w w'):DiskAt w' p S:=h.upd hu fun _ _=>id
theorem d_ms(h:DiskAt w p S):p.d≠p.ms:=fun e=>h.syn.ne_blk h.blk e.symm
theorem d_mn(h:DiskAt w p S):p.d≠p.mn:=fun e=>h.now.ne_blk h.blk e.symm
theorem d_v(h:DiskAt w p S):p.v.ownBlock≠some p.d:=h.pend.blk_ne h.blk (by decide)
theorem v_ms(h:DiskAt w p S):p.v.ownBlock≠some p.ms:=fun e=>by
 obtain⟨cs,hc⟩:=h.pend.is_cells e;exact h.syn.not_cells hc
theorem v_mn(h:DiskAt w p S):p.v.ownBlock≠some p.mn:=fun e=>by
 obtain⟨cs,hc⟩:=h.pend.is_cells e;exact h.now.not_cells hc
theorem setBox(h:DiskAt w p S)(i:Nat)(u:Value){S':DiskS}(hcs:(#[.int .i64 S.size,.map (some p.ms),.map (some p.mn),p.v,.int .i64 S.fuse,.bool S.down,.int .i64 S.syncs]:Array Value).setIfInBounds i u=#[.int .i64 S'.size,.map (some p.ms),.map (some p.mn),p.v,.int .i64 S'.fuse,.bool S'.down,.int .i64 S'.syncs])
 (h1:S'.syn=S.syn) (h2:S'.now=S.now) (h3:S'.pend=S.pend):DiskAt (w.setCell ⟨p.d,i,none⟩ u) p S':=by
 have hu:=Upd.one w p.d i u;refine⟨?_,by rw[h1];exact h.syn.upd hu (fun e=>h.d_ms e.symm),by rw[h2];exact h.now.upd hu (fun e=>h.d_mn e.symm),by rw[h3];exact h.pend.upd hu fun k hk e=>h.d_v (e▸hk),h.ne⟩
 rw[←hcs];exact h.blk.set_ i u
end DiskAt
theorem foot_one{p:DkP}{w:World}{i:Nat}{u:Value}:Upd p.foot w (w.setCell ⟨p.d,i,none⟩ u):=(Upd.one w p.d i u).mono fun _ _ e=> .inl e
theorem step_ok{w:World}{p:DkP}{S:DiskS}(h:DiskAt w p S)(hfu:S.fuse≤9223372036854775807):Calls Tryz.prog 155 #[.pointer (some ⟨p.d,0,none⟩)] w fun e w'=>
 e= .returned (.int .i64 S.stepE)∧DiskAt w' p S.step∧Upd p.foot w w':=by
 have c4:=h.blk.cell 4;have c5:=h.blk.cell 5;have f4:=h.blk.frozen 4;have f5:=h.blk.frozen 5;simp only[qA,qZ,qS]at c4 c5;have H:=qh h;clear h;obtain⟨sz,syn,now,pend,fuse,down,syncs⟩:=S;simp only at c4 c5 hfu;by_cases hd:down=true
 ·subst hd;go_enter Tryz.func155,Tryz.ntmps155
  go_wp2_with fail
  go_ret;exact⟨rfl,H.out.setBox 5 _ rfl rfl rfl rfl,foot_one⟩
 ·have hd:down=false:=by simpa using hd
  subst hd;by_cases hf:fuse=0
  ·subst hf;go_enter Tryz.func155,Tryz.ntmps155
   go_wp2_with fail
   go_ret;exact⟨rfl,H.out.setBox 5 _ rfl rfl rfl rfl,foot_one⟩
  ·have hf':(fuse == 0)=false:=by simpa using hf
   by_cases hp:0<fuse
   ·have hm:IntKind.i64.wrap (fuse - 1)=fuse - 1:=IntWalk.i64_in _ (by omega)
    have HF:=qh hf;have HP:=qh hp;have H1:=H.out.setBox 5 (.bool false) (S':=⟨sz,syn,now,pend,fuse,false,syncs⟩) rfl rfl rfl rfl;have H2:=qh (H1.setBox 4 (.int .i64 (fuse - 1)) (S':=⟨sz,syn,now,pend,fuse - 1,false,syncs⟩) rfl rfl rfl rfl);clear hf hfu H1;go_enter Tryz.func155,Tryz.ntmps155
    go_wp2_with fail
    go_ret;have e:DiskS.step ⟨sz,syn,now,pend,fuse,false,syncs⟩=⟨sz,syn,now,pend,fuse - 1,false,syncs⟩:=by simp[DiskS.step,DiskS.gone,hf',HP.out]
    rw[e];exact⟨by simp[DiskS.stepE,DiskS.gone,hf'],H2.out,foot_one.same foot_one⟩
   ·have HF:=qh hf;have HP:=qh hp;have H1:=qh (H.out.setBox 5 (.bool false) (S':=⟨sz,syn,now,pend,fuse,false,syncs⟩) rfl rfl rfl rfl);clear hf hfu;go_enter Tryz.func155,Tryz.ntmps155
    go_wp2_with fail
    go_ret;have e:DiskS.step ⟨sz,syn,now,pend,fuse,false,syncs⟩=⟨sz,syn,now,pend,fuse,false,syncs⟩:=by simp[DiskS.step,DiskS.gone,hf'];intro h;have:=HP.out;omega
    rw[e];exact⟨by simp[DiskS.stepE,DiskS.gone,hf'],H1.out,foot_one⟩
theorem run_noughts(w:World):(Instr.makeSlice 143 (.int .i64 256) (.int .i64 256)).run Tryz.prog w= .ok (.slice (some ⟨w.heap.size,0,none⟩) 256 256) (w.alloc (.cells (Array.replicate 256 (.int .u8 0)) 5)):=by kernel_rfl
theorem noughts_bytes(w:World):BytesE (w.alloc (.cells (Array.replicate 256 (.int .u8 0)) 5)) (.slice (some ⟨w.heap.size,0,none⟩) 256 256) noughtsB:=by
 have hl:noughtsB.length=256:=List.length_replicate;have hfl:(noughtsB.flatMap byteC).length=noughtsB.length * 1:=flatMap_len byteC_len _;unfold BytesE Els;rw[hl]at hfl ⊢;refine⟨_,256,rfl,qlr _,hfl,fun _=>⟨_,rfl,by simp,rfl,fun j u hj=> ?_⟩⟩
 have e2:(⟨w.heap.size,0,none⟩:Addr).add j=⟨w.heap.size,j,none⟩:=by unfold Addr.add;split<;>simp_all
 rw[e2,(Blk.new w 5 _).cell,←hj,flat_byteC];unfold noughtsB bytesV;rw[List.map_replicate,Array.getElem?_replicate,List.getElem?_replicate];rfl
theorem noughts_ok(w:World):Calls Tryz.prog 54 #[] w fun e w'=>e= .returned (strV noughtsB)∧Upd Nowhere w w':=by
 have hm:=run_noughts;have HC:=qh (conv_back (noughts_bytes w));go_enter Tryz.func54,Tryz.ntmps54
 generalize (Array.replicate 256 (Value.int .u8 0))=cs at hm HC;go_wp2_with (refine wpList_conv_run rfl 143 9 _ rfl rfl HC.out ?_)
 go_ret;exact⟨rfl,(Upd.refl _ w).alloc _⟩
theorem at_ok{w:World}{p:DkP}{S:DiskS}(h:DiskAt w p S)(n:Nat)(hn:n<S.size):Calls Tryz.prog 211 #[.pointer (some ⟨p.d,0,none⟩),.int .i64 (n:Int)] w fun e w'=>e= .returned (.int .i64 0)∧w'=w:=by
 have c0:=h.blk.cell 0;simp only[qA,qZ]at c0;have hn':¬((S.size:Nat):Int)≤(n:Int):=by omega
 have hn0:¬(n:Int)<0:=by omega
 clear h hn;go_enter Tryz.func211,Tryz.ntmps211
 go_wp2_with fail
 go_ret;exact⟨rfl,rfl⟩
theorem zero_str(w:World):(zeroValue 9).run Tryz.prog w= .ok (strV []) w:=by kernel_rfl
theorem DiskAt.lookNow{w:World}{p:DkP}{S:DiskS}(h:DiskAt w p S)(n:Int):(Instr.lookup 104 (.map (some p.mn)) (.int .i64 n) true).run Tryz.prog w= .ok (.tuple #[((encF S.now) n).getD (strV []),.bool ((encF S.now) n).isSome]) w:=
 h.now.look (keyInt .i64) Tryz.underlying104 Tryz.underlying3 (zero_str w) n true
theorem DiskAt.lookSyn{w:World}{p:DkP}{S:DiskS}(h:DiskAt w p S)(n:Int):(Instr.lookup 104 (.map (some p.ms)) (.int .i64 n) true).run Tryz.prog w= .ok (.tuple #[((encF S.syn) n).getD (strV []),.bool ((encF S.syn) n).isSome]) w:=
 h.syn.look (keyInt .i64) Tryz.underlying104 Tryz.underlying3 (zero_str w) n true
def DreadP(b:Bs)(w:World)(e:Ending)(w':World):Prop:=∃c,e= .returned (.tuple #[.slice (some ⟨w'.heap.size - 1,0,none⟩) b.length c,.int .i64 0])∧BytesE w' (.slice (some ⟨w'.heap.size - 1,0,none⟩) b.length c) b∧U8 w' (w'.heap.size - 1)∧w.heap.size≤w'.heap.size - 1∧Upd Nowhere w w'
theorem dread_ok{w:World}{p:DkP}{S:DiskS}(h:DiskAt w p S)(n:Nat)(hn:n<S.size)(hd:S.down=false):Calls Tryz.prog 146 #[.pointer (some ⟨p.d,0,none⟩),.int .i64 (n:Int)] w (DreadP (S.read n) w):=by
 have c1:=h.blk.cell 1;have c2:=h.blk.cell 2;have c5:=h.blk.cell 5;simp only[qA,qZ,qS,hd]at c1 c2 c5;have HA:=qh (at_ok h n hn);have HLN:=h.lookNow n;have HLS:=h.lookSyn n;have hR:S.read n=(match S.now n with | some s=>s | none=>match S.syn n with | some s=>s | none=>noughtsB):=rfl
 unfold encF at HLN HLS
 cases hnow:S.now n with
 | some b=>
   rw[hnow]at HLN hR;have HL:=qh HLN;simp only at hR;have HR:=qh hR;obtain⟨c,w2,hrun,hE,hU,hsz,cs,fz,h8⟩:=conv_bytes w b;have HRUN:=qh hrun;have HE:=qh hE;have HU:=qh hU;have HS:=qh hsz;have H8:Hid (U8 w2 w.heap.size):=qh ⟨cs,fz,h8⟩;clear HLN HLS hR hrun hE hU hsz h8 h hd hn hnow;go_enter Tryz.func146,Tryz.ntmps146
   go_wp2_with fail
   refine HA.out.mono ?_;rintro e w1 ⟨rfl,rfl⟩;go_wp2_with (first | (refine wpList_lookup_run rfl _ _ _ _ rfl rfl rfl HL.out ?_) | (refine wpList_conv_run rfl 9 143 _ rfl rfl HRUN.out ?_))
   go_ret2;rw[HR.out];have e1:w2.heap.size - 1=w1.heap.size:=by have:=HS.out;omega
   refine⟨c,by rw[e1];rfl,by rw[e1];exact HE.out,by rw[e1];exact H8.out,by omega,HU.out⟩
 | none=>
   rw[hnow]at HLN hR;have HL:=qh HLN;simp only at hR
   cases hsyn:S.syn n with
   | some b=>
     rw[hsyn]at HLS hR;have HL2:=qh HLS;simp only at hR;have HR:=qh hR;obtain⟨c,w2,hrun,hE,hU,hsz,cs,fz,h8⟩:=conv_bytes w b;have HRUN:=qh hrun;have HE:=qh hE;have HU:=qh hU;have HS:=qh hsz;have H8:Hid (U8 w2 w.heap.size):=qh ⟨cs,fz,h8⟩;clear HLN HLS hR hrun hE hU hsz h8 h hd hn hnow hsyn;go_enter Tryz.func146,Tryz.ntmps146
     go_wp2_with fail
     refine HA.out.mono ?_;rintro e w1 ⟨rfl,rfl⟩;go_wp2_with (first | (refine wpList_lookup_run rfl _ _ _ _ rfl rfl rfl HL.out ?_) | (refine wpList_lookup_run rfl _ _ _ _ rfl rfl rfl HL2.out ?_) | (refine wpList_conv_run rfl 9 143 _ rfl rfl HRUN.out ?_))
     go_ret2;rw[HR.out];have e1:w2.heap.size - 1=w1.heap.size:=by have:=HS.out;omega
     refine⟨c,by rw[e1];rfl,by rw[e1];exact HE.out,by rw[e1];exact H8.out,by omega,HU.out⟩
   | none=>
     rw[hsyn]at HLS hR;have HL2:=qh HLS;simp only at hR;have HR:=qh hR;clear HLN HLS hR h hd hn hnow hsyn;go_enter Tryz.func146,Tryz.ntmps146
     go_wp2_with fail
     refine HA.out.mono ?_;rintro e w1 ⟨rfl,rfl⟩;go_wp2_with (first | (refine wpList_lookup_run rfl _ _ _ _ rfl rfl rfl HL.out ?_) | (refine wpList_lookup_run rfl _ _ _ _ rfl rfl rfl HL2.out ?_))
     refine(noughts_ok _).mono ?_;rintro e w2 ⟨rfl,hU1⟩;obtain⟨c,w3,hrun,hE,hU,hsz,cs,fz,h8⟩:=conv_bytes w2 noughtsB;have HRUN:=qh hrun;have HE:=qh hE;have HU:=qh hU;have HU1:=qh hU1;have HS:=qh hsz;have H8:Hid (U8 w3 w2.heap.size):=qh ⟨cs,fz,h8⟩;clear hrun hE hU hsz h8 hU1;go_wp2_with (refine wpList_conv_run rfl 9 143 _ rfl rfl HRUN.out ?_)
     go_ret2;rw[HR.out];have e1:w3.heap.size - 1=w2.heap.size:=by have:=HS.out;omega
     refine⟨c,by rw[e1];rfl,by rw[e1];exact HE.out,by rw[e1];exact H8.out,by have:=HU1.out.size;omega,HU1.out.same HU.out⟩
theorem dread_down{w:World}{p:DkP}{S:DiskS}(h:DiskAt w p S)(n:Nat)(hn:n<S.size)(hd:S.down=true):Calls Tryz.prog 146 #[.pointer (some ⟨p.d,0,none⟩),.int .i64 (n:Int)] w fun e w'=>e= .returned (.tuple #[.slice none 0 0,.int .i64 40])∧w'=w:=by
 have c5:=h.blk.cell 5;simp only[qA,qZ,qS,hd]at c5;have HA:=qh (at_ok h n hn);clear h hd hn;go_enter Tryz.func146,Tryz.ntmps146
 go_wp2_with fail
 refine HA.out.mono ?_;rintro e w1 ⟨rfl,rfl⟩;go_wp2_with fail
 go_ret2;exact⟨rfl,rfl⟩
theorem write_row:RowK Tryz.prog 105 111 writeC 2:=
 ⟨Tryz.underlying105,⟨.agg #[.int .i64 0,.string ⟨#[]⟩],24,by kernel_rfl,rfl,by omega⟩,fun _=>rfl,fun a u hu=>by
  simp only[writeC,qmc,List.not_mem_nil,or_false]at hu
  rcases hu with rfl | rfl<;>rfl,by omega⟩
theorem encF_put(f:Int→Option Bs)(n:Int)(b:Bs):encF (putF f n (some b))=putF (encF f) n (some (strV b)):=by
 funext k
 unfold encF putF;by_cases h:k=n<;>simp[h]
def NewV(w:World)(v v':Value):Prop:=∀k,v'.ownBlock=some k→v.ownBlock=some k∨w.heap.size≤k
theorem NewV.refl(w:World)(v:Value):NewV w v v:=fun _ h=> .inl h
theorem NewV.trans{w w':World}{v v' v'':Value}(h:NewV w v v')(h':NewV w' v' v'')(hw:w.heap.size≤w'.heap.size):NewV w v v'':=fun k hk=>by
 rcases h' k hk with h1 | h1
 ·exact h k h1
 ·exact .inr (by omega)
def DkP.at_(p:DkP)(v:Value):DkP:=⟨p.d,p.ms,p.mn,v⟩
theorem foot_step{p:DkP}{v':Value}{a b c:World}(h:Upd p.foot a b)(hn:NewV a p.v v')(h':Upd (p.at_ v').foot b c):Upd p.foot a c:=
 h.trans h' fun k hk hf=>by
  rcases hf with h1 | h1 | h1 | h1
  ·exact .inl h1
  ·exact .inr (.inl h1)
  ·exact .inr (.inr (.inl h1))
  ·rcases hn k h1 with h2 | h2
   ·exact .inr (.inr (.inr h2))
   ·omega
theorem dwrite_ok{w:World}{p:DkP}{S:DiskS}(h:DiskAt w p S)(hfu:S.fuse≤9223372036854775807)(n:Nat)(hn:n<S.size){v:Value}{b:Bs}(hv:BytesE w v b)(hnv:∀k,v.ownBlock=some k→¬p.foot k)(hb:b.length=256)(hpl:S.pend.length≤90000)(hg:S.gone=false):
 Calls Tryz.prog 154 #[.pointer (some ⟨p.d,0,none⟩),.int .i64 (n:Int),v] w fun e w'=>∃v',e= .returned (.int .i64 0)∧DiskAt w' (p.at_ v') (S.step.wrote n b)∧Upd p.foot w w'∧NewV w p.v v':=by
 obtain⟨A0,c0,rfl,_⟩:=hv.val;have HA:=qh (at_ok h n hn);have HS:=step_ok h hfu;have hE:S.stepE=0:=by unfold DiskS.stepE;rw[hg];rfl
 rw[hE]at HS;have HS:=qh HS;have HV:=qh hv;have HNV:=qh hnv;have HB:=qh hb;have hpl':S.step.pend.length≤90000:=by unfold DiskS.step;split<;>exact hpl
 have HPL:=qh hpl';have hb':((b.length:Nat):Int)=256:=by omega
 clear h hfu hn hv hnv hE hb hpl hg hpl';go_enter Tryz.func154,Tryz.ntmps154
 go_wp2_with fail
 refine HA.out.mono ?_;rintro e w1 ⟨rfl,rfl⟩;go_wp2_with fail
 refine HS.out.mono ?_;rintro e w2 ⟨rfl,hD2,hU2⟩;have c2:=hD2.blk.cell 2;simp only[qA,qZ,qS]at c2;have hE2:BytesE w2 (.slice A0 b.length c0) b:=HV.out.upd hU2 HNV.out;have hcv:(convert 143 9 (.slice A0 b.length c0)).run Tryz.prog w2.drew= .ok (strV b) w2.drew:=conv_back hE2;obtain⟨w3,hrun3,hM3,hg3,hsz3⟩:=(show MapIs intK w2.drew p.mn (encF S.step.now) from hD2.now).store (keyInt .i64) Tryz.underlying104 Tryz.underlying3 (n:Int) (strV b)
 have HRUN3:=qh hrun3;have HM3:=qh hM3;have HG3:=qh hg3;have HSZ3:=qh hsz3;clear hsz3;have HD2:=qh hD2;have HU2:=qh hU2;have HE2:=qh hE2;clear hrun3 hM3 hg3 hD2 hU2 hE2;go_wp2_with fail
 refine wp_region_tail 7 (by kernel_rfl) (by kernel_rfl) ?_
 simp only[List.take_succ_cons,List.take_zero,List.drop_succ_cons,List.drop_zero]
 repeat still_step
 refine wpStill_nil ?_;go_wp2_with (refine wpList_update_run rfl _ _ _ _ rfl rfl rfl rfl HRUN3.out ?_)
 have hu3:Upd (fun k=>k=p.mn) w2 w3:=⟨HG3.out.os,HG3.out.tape,HG3.out.output,HG3.out.size,fun k hk hn=>HG3.out.block k hk fun e=>hn (Option.some.inj e)⟩
 have hD3:DiskAt w3 p { S.step with now:=putF S.step.now n (some b) }:=
  ⟨HD2.out.blk.upd hu3 HD2.out.d_mn,HD2.out.syn.upd hu3 HD2.out.ne,by rw[encF_put];exact HM3.out,HD2.out.pend.upd hu3 fun k hk e=>HD2.out.v_mn (e▸hk),HD2.out.ne⟩
 have c3:=hD3.blk.cell 3;have f3:=hD3.blk.frozen 3;have hlt3:=hD3.blk.lt;simp only[qA,qZ,qS]at c3;obtain⟨A3,c3',hpv,hpc⟩:=hD3.pend.cap;simp only at hpv hpc;rw[hpv]at c3;have hE3:=HE2.out.upd hu3 fun k hk e=>HNV.out k hk (.inr (.inr (.inl e)))
 have hcv3:(convert 143 9 (.slice A0 b.length c0)).run Tryz.prog w3.drew= .ok (strV b) w3.drew:=conv_back hE3;obtain⟨v4,w4,hrun4,hO4,hg4,hn4⟩:=write_row.app1 (hD3.pend.drew) (Nat.zero_le _) 105 ((n:Int),b) #[.int .i64 (n:Int),strV b] rfl (by have:=HPL.out;simp only;omega)
 have hu4:Upd (fun k=>p.v.ownBlock=some k) w3 w4:=⟨hg4.os,hg4.tape,hg4.output,hg4.size,fun k hk hn=>hg4.block k hk fun e=>hn e.symm⟩
 have hb4:=hD3.blk.upd hu4 fun e=>hD3.d_v e
 have f4:=hb4.frozen 3;have c4:=hb4.cell 3;simp only[qA,qZ,qS]at c4;rw[hpv]at c4 hrun4;obtain⟨A4,c4',rfl,hc4⟩:=hO4.cap;simp only[qla,List.length_cons,List.length_nil,Nat.zero_add]at hrun4 hO4 hc4 hn4;have hrun4':(Builtin.append_ #[105,105] 105 #[.slice A3 S.step.pend.length c3',.slice (some ⟨w3.heap.size,0,none⟩) 1 1]).run Tryz.prog ((w3.alloc (.cells #[.int .i64 (n:Int),strV b] 111)).drew)= .ok (.slice A4 (S.step.pend.length+1) c4') w4:=hrun4;have HRUN4:=qh hrun4';have HO4:=qh hO4;have HU3:=qh hu3;have HU4:=qh hu4;have HD3:=qh hD3;have HN4:=qh hn4;have HB4:=qh hb4;have HPV:=qh hpv;clear hrun4 hrun4' hO4 hg4 hu3 hu4 hD3 hn4 hb4 hE3 hcv hpv c2;go_wp2_with fail
 go_region_law (first
  | (refine step_append_run rfl _ _ _ rfl rfl rfl HRUN4.out ?_))
 all_goals
  go_wp2_with fail
  go_ret;have hone:=Upd.one w4 p.d 3 (.slice A4 (S.step.pend.length+1) c4');have hw:w1.heap.size≤w3.heap.size:=Nat.le_trans HU2.out.size HU3.out.size
  have hne4:(Value.slice A4 (S.step.pend.length+1) c4').ownBlock≠some p.d:=fun e=>by
   rcases HN4.out _ e with h | h
   ·exact HD3.out.d_v h
   ·have:w3.heap.size≤p.d:=h;have:=HD3.out.blk.lt;omega
  refine⟨.slice A4 (S.step.pend.length+1) c4',rfl,⟨HB4.out.set_ 3 _,(HD3.out.syn.upd HU4.out HD3.out.v_ms).upd hone (fun e=>HD3.out.d_ms e.symm),(HD3.out.now.upd HU4.out HD3.out.v_mn).upd hone (fun e=>HD3.out.d_mn e.symm),?_,HD3.out.ne⟩,?_,fun k hk=> ?_⟩
  ·have:=HO4.out.upd hone fun k hk e=>hne4 (e▸hk)
   refine⟨?_,this.new⟩;exact this.row
  ·exact((HU2.out.trans HU3.out fun k _ e=> .inr (.inr (.inl e))).trans HU4.out fun k _ e=> .inr (.inr (.inr e))).same foot_one
  ·rcases HN4.out k hk with h | h
   ·exact .inl h
   ·exact .inr (Nat.le_trans hw h)
def overV(f g:Int→Option Value):Int→Option Value:=fun k=>match f k with
 | some s=>some s
 | none=>g k
theorem encF_over(f g:Int→Option Bs):encF (overF f g)=overV (encF f) (encF g):=by
 funext k
 unfold encF overF overV
 cases h:f k<;>simp[h]
theorem mcopy_ok{w:World}{bd bs:Nat}{f g:Int→Option Bs}(hd:MapIs intK w bd (encF g))(hs:MapIs intK w bs (encF f))(hne:bd≠bs):Calls Tryz.prog 156 #[.map (some bd),.map (some bs)] w fun e w'=>
 e= .returned (.tuple #[])∧MapIs intK w' bd (encF (overF f g))∧MapIs intK w' bs (encF f)∧Upd (fun k=>k=bd) w w':=by
 obtain⟨w0,cnt0,hrun0,hR0,hU0,hsz0⟩:=hs.range (t:=104) Tryz.underlying104;have HRUN:=qh hrun0;have HR0:=qh hR0;have HU0:=qh hU0;have HD:=qh hd;have hdl:=hd.lt;have hsl:=hs.lt;clear hrun0 hR0 hU0 hsz0 hd hs;go_enter Tryz.func156,Tryz.ntmps156
 go_wp2_with (at_range;refine wpList_range_run rfl _ _ rfl rfl HRUN.out ?_)
 go_frame
 go_loopw [8] (fun _ wr=>∃(left:Int→Prop) (cnt:Nat) (D:Int→Option Value),RangeIs intK wr w.heap.size bs (encF f) left cnt∧MapIs intK wr bd D∧(∀a,¬left a→D a=overV (encF f) (encF g) a)∧(∀a,left a→(encF f) a≠none)∧Upd (fun k=>k=bd) w wr) (fun _ wr=>wr.rangeLeft bs w.heap.size)
 case atStart=>
  refine⟨_,cnt0,encF g,HR0.out,HD.out.upd HU0.out id,fun a ha=> ?_,fun a ha=>ha,HU0.out.any⟩
  have:encF f a=none:=Classical.byContradiction ha;unfold overV;rw[this]
 case round=>
  obtain⟨left,cnt,D,hR,hM,hD,hL,hu⟩:=hrel;have HR:=qh hR;have HM:=qh hM;have HDD:=qh hD;have HL:=qh hL;have HU:=qh hu;clear hR hM hD hL hu;go_wp2_with (at_next;refine wpList_next_is (keyInt .i64) rfl _ rfl rfl HR.out ?_ ?_)
  ·intro h0 hno;go_wp2_with fail
   go_end0;refine⟨rfl,?_,HR.out.map,HU.out⟩;rw[encF_over];exact HM.out.congr fun a=>HDD.out a (hno a)
  ·intro x v w1 cnt1 hfx hlx hR1 hlt hu1 hsz1 hen
   obtain⟨s,hs⟩:∃s,v=strV s:=by
    unfold encF at hfx
    cases hff:f x with
    | none=>rw[hff]at hfx;cases hfx
    | some s=>rw[hff]at hfx;exact⟨s,(Option.some.inj hfx).symm⟩
   subst hs;obtain⟨w2,hrun2,hM2,hg2,hsz2⟩:=(HM.out.upd hu1 (by omega)).store (keyInt .i64) Tryz.underlying104 Tryz.underlying3 x (strV s)
   have hu2:Upd (fun k=>k=bd) w1 w2:=⟨hg2.os,hg2.tape,hg2.output,hg2.size,fun k hk hn=>hg2.block k hk fun e=>hn (Option.some.inj e)⟩
   have HRUN2:=qh hrun2;have HM2:=qh hM2;have HU2:=qh hu2;have HU1:=qh hu1;have HR1:=qh hR1;have HLT:=qh hlt;have HFX:=qh hfx;have HLX:=qh hlx;clear hrun2 hM2 hg2 hu2 hu1 hR1 hlt hfx hlx hsz1 hsz2;go_wp2_with (at_mapUpdate;refine wpList_update_run rfl _ _ _ _ rfl rfl rfl rfl HRUN2.out ?_)
   go_frame
   go_roundw
   case rel=>
    refine⟨_,cnt1,_,HR1.out.upd HU2.out (fun e=>hne e.symm) (by omega),HM2.out,fun a ha=> ?_,fun a ha=>HL.out a ha.1,?_⟩
    ·by_cases hax:a=x
     ·subst hax;rw[putF_same];unfold overV;rw[HFX.out]
     ·rw[putF_other _ hax];exact HDD.out a fun hl=>ha ⟨hl,hax⟩
    ·exact(HU.out.trans HU1.out fun k hk e=>absurd hk (by omega)).same HU2.out
   case measure=>
    rw[(HR1.out.upd HU2.out (fun e=>hne e.symm) (by omega)).left_eq,HR.out.left_eq]
    exact HLT.out
theorem Blk.setCells{g t:Nat}:∀(vs:List Value) (o:Nat) {w:World} {cs:Array Value},Blk w g t cs→∃cs',Blk (w.setCells g o vs) g t cs'∧cs'.size=cs.size∧Upd (fun k=>k=g) w (w.setCells g o vs)
 | [],_,w,cs,h=>⟨cs,h,rfl,Upd.refl _ _⟩
 | v::r,o,w,cs,h=>by
   obtain⟨cs',h1,h2,h3⟩:=Blk.setCells r (o+1) (h.set_ o v);exact⟨cs',h1,by rw[h2];simp,(Upd.one w g o v).same h3⟩
theorem zeroCells_len(z:Array Value)(n:Nat):(Builtin.zeroCells z n).toList.length=n * z.size:=by simp[Builtin.zeroCells]
theorem run_clear_writes{w:World}{v:Value}{L:List (Int×Bs)}(h:OwnR 111 writeC 2 0 w v L):∃w',(∀ty,(Builtin.clear_ #[105] ty #[v]).run Tryz.prog w= .ok (.tuple #[]) w')∧Upd (fun k=>v.ownBlock=some k) w w'∧
 ∀A n c,v= .slice A n c→OwnR 111 writeC 2 0 w' (.slice A 0 c) []:=by
 rcases h.row.2 with⟨rfl,h0⟩ | ⟨g,cap,cur,rfl,_,hh,hn,hm,hs,ht⟩
 ·refine⟨w,fun ty=>by simp[Builtin.clear_,run_underlying Tryz.underlying105],Upd.refl _ _,?_⟩
  rintro A n c e;injection e with e1 e2 e3
  subst e1 e3;exact OwnR.nil _ _ _ _ _
 ·rcases Nat.eq_zero_or_pos L.length with h0 | h0
  ·refine⟨w,fun ty=>by rw[h0];simp[Builtin.clear_,run_underlying Tryz.underlying105],Upd.refl _ _,?_⟩
   rintro A n c e;injection e with e1 e2 e3
   subst e1 e3;obtain rfl:=List.length_eq_zero_iff.1 h0;exact h
  ·have hz:∀w,(zeroValue 111).run Tryz.prog w= .ok (.agg #[.int .i64 0,strV []]) w:=fun _=>by kernel_rfl
   obtain⟨m,hm1⟩:∃m,L.length=m+1:=⟨L.length - 1,by omega⟩
   have hb:Blk w g 111 cur:=hh;have hlen:=zeroCells_len (Value.agg #[.int .i64 0,strV []]).cells L.length
   have hst:=run_storeCells_cells (P:=Tryz.prog) g 0 (Builtin.zeroCells (Value.agg #[.int .i64 0,strV []]).cells L.length).toList 0 w (fun j hj=>by
    rw[hlen]at hj;have:j<cur.size:=by rw[hs];have:(Value.agg #[.int .i64 0,strV []]).cells.size=2:=rfl;rw[this]at hj;omega
    rw[show 0+0+j=j by omega,hb.cell,Array.getElem?_eq_getElem this];rfl) (fun j _=>hb.frozen _) (fun u hu=>by
    simp only[Builtin.zeroCells,Array.toList_map,List.mem_map]at hu;obtain⟨i,_,rfl⟩:=hu;have:(Value.agg #[.int .i64 0,strV []]).cells.size=2:=rfl;rw[this]
    rcases(by omega:i % 2=0∨i % 2=1) with e | e<;>rw[e]<;>rfl)
   obtain⟨cs',h1,h2,h3⟩:=hb.setCells (Builtin.zeroCells (Value.agg #[.int .i64 0,strV []]).cells L.length).toList 0;refine⟨_,fun ty=> ?_,h3.mono fun k _ e=>by rw[e];rfl,?_⟩
   ·simp only[Nat.add_zero]at hst;rw[hm1]at hst ⊢;simp[Builtin.clear_,run_underlying Tryz.underlying105,hz,hst]
   ·rintro A n c e;injection e with e1 e2 e3
    subst e1 e3;exact⟨⟨rfl,.inr ⟨g,cap,cs',rfl,Nat.zero_le _,h1,Nat.zero_le _,hm,by rw[h2,hs],by simp⟩⟩,fun k _=>Nat.zero_le _⟩
theorem run_clear_map{w:World}{b:Nat}{f:Int→Option Value}(h:MapIs intK w b f):∃w',(∀ty,(Builtin.clear_ #[104] ty #[.map (some b)]).run Tryz.prog w= .ok (.tuple #[]) w')∧MapIs intK w' b (fun _=>none)∧Upd (fun k=>k=b) w w':=by
 obtain⟨es,ck,h1,h2,h3,h4⟩:=h;refine⟨ChangeMaps.setBlock w b (.map #[] ck),fun ty=> ?_,⟨#[],ck,setBlock_at (lt_of_heap h1) _,⟨by simp,by simp,by simp⟩,by simp,by simp⟩,?_⟩
 ·simp[Builtin.clear_,run_underlying Tryz.underlying104,MapKept.run_getObj_map h1,MapKept.run_setObj_map _ h1,Result.andThen,ChangeMaps.setBlock]
 ·have:=setBlock_grown w b (.map #[] ck);exact⟨this.os,this.tape,this.output,this.size,fun k hk hn=>this.block k hk fun e=>hn (Option.some.inj e)⟩
section
variable {P:Program} {ops:Array Oper} {rest:List Oper} {o:Oper} {a:Act} {Q:Exit→Act→World→Prop} {w:World}
theorem wpList_clear_run(hg:o.guard=none)(x:Operand)(t:TypeId)(ho:o.op=Op.call { callee:=Callee.builtin Builtin.clear,args:=#[x],argTypes:=#[t] }){v:Value}{w':World}(hx:a.eval x=v)(hrun:(Builtin.clear_ #[t] o.type #[v]).run P w= .ok (.tuple #[]) w')(h:wpList P ops Q rest (a.put o.dst (.tuple #[])) w'):wpList P ops Q (o::rest) a w:=by
 refine wpList_plain hg fun K hK=> ?_
 unfold Oper.wp execOp;simp only[ho,resolve,invoke,builtin,Sem.run_bind,Sem.run_pure,Result.andThen_ok,List.map_toArray,List.map_cons,List.map_nil,hx,hrun];exact hK _ _ h
end
theorem dsync_ok{w:World}{p:DkP}{S:DiskS}(h:DiskAt w p S)(hfu:S.fuse≤9223372036854775807)(hsy:0≤S.syncs∧S.syncs≤4000000000)(hg:S.gone=false):
 Calls Tryz.prog 102 #[.pointer (some ⟨p.d,0,none⟩)] w fun e w'=>∃v',e= .returned (.int .i64 0)∧DiskAt w' (p.at_ v') S.step.flushed∧Upd p.foot w w'∧NewV w p.v v':=by
 have HS:=step_ok h hfu;have hE:S.stepE=0:=by unfold DiskS.stepE;rw[hg];rfl
 rw[hE]at HS;have HS:=qh HS;have hsy':0≤S.step.syncs∧S.step.syncs≤4000000000:=by unfold DiskS.step;split<;>exact hsy
 have HSY:=qh hsy';clear h hfu hE hg hsy hsy';go_enter Tryz.func102,Tryz.ntmps102
 go_wp2_with fail
 refine HS.out.mono ?_;rintro e w2 ⟨rfl,hD2,hU2⟩;generalize hS2:S.step=S2 at*;have HS2:=qh hS2;clear hS2;have c1:=hD2.blk.cell 1;have c2:=hD2.blk.cell 2;simp only[qA,qZ,qS]at c1 c2;have HD2:=qh hD2;have HU2:=qh hU2;clear hD2 hU2;go_wp2_with fail
 refine wp_region_tail 8 (by kernel_rfl) (by kernel_rfl) ?_
 simp only[List.take_succ_cons,List.take_zero,List.drop_succ_cons,List.drop_zero]
 repeat still_step
 refine wpStill_nil ?_;go_wp2_with fail
 refine(mcopy_ok (w:=w2.drew) HD2.out.syn HD2.out.now HD2.out.ne).mono ?_;rintro e w3 ⟨rfl,hM3,hN3,hU3⟩;have hU3':Upd (fun k=>k=p.ms) w2 w3:=⟨hU3.os,hU3.tape,hU3.output,hU3.size,hU3.block⟩
 have hB3:=HD2.out.blk.upd hU3' HD2.out.d_ms;have hO3:=HD2.out.pend.upd hU3' fun k hk e=>HD2.out.v_ms (e▸hk)
 have d2:=hB3.cell 2;simp only[qA,qZ,qS]at d2;obtain⟨w4,hrun4,hM4,hU4⟩:=run_clear_map hN3;have hne:=HD2.out.ne;have hB4:=hB3.upd hU4 HD2.out.d_mn;have hO4:=hO3.upd hU4 fun k hk e=>HD2.out.v_mn (e▸hk)
 have hS4:=hM3.upd hU4 hne;have b3:=hB4.cell 3;simp only[qA,qZ,qS]at b3;obtain⟨w5,hrun5,hU5,hO5⟩:=run_clear_writes hO4;obtain⟨A,c,hpv,hpc⟩:=hO4.cap;have hD4:DiskAt w4 p { S2 with syn:=overF S2.now S2.syn,now:=fun _=>none }:=⟨hB4,hS4,hM4.congr fun _=>rfl,hO4,hne⟩
 have hO5':=hO5 _ _ _ hpv;have hB5:=hD4.blk.upd hU5 hD4.d_v;have e3:=hB5.cell 3;have f3:=hB5.frozen 3;simp only[qA,qZ,qS]at e3;have hU6:=Upd.one w5 p.d 3 (.slice A 0 c);have hB6:=hB5.set_ 3 (.slice A 0 c);have e6:=hB6.cell 6;have f6:=hB6.frozen 6;have hdv:(Value.slice A S2.pend.length c).ownBlock≠some p.d:=hpv▸hD4.d_v;have hown:(Value.slice A 0 c).ownBlock=(Value.slice A S2.pend.length c).ownBlock:=by cases A<;>rfl
 have hsy2:=HSY.out;have hm:IntKind.i64.wrap (S2.syncs+1)=S2.syncs+1:=IntWalk.i64_in _ (by omega)
 simp only[qA,qZ,qS,qsA,qsS,qsZ]at e6;rw[hpv]at b3 e3 hrun5;have HRUN4:=qh hrun4;have HRUN5:=qh hrun5;have HU3:=qh hU3';have HU4:=qh hU4;have HU5:=qh hU5;have HD4:=qh hD4;have HB6:=qh hB6;have HO5:=qh hO5';have HPV:=qh hpv;have HOWN:=qh hown;have HDV:=qh hdv;have HSY2:=qh hsy2;clear hsy2;clear hrun4 hrun5 hU3 hU3' hU4 hU5 hD4 hB6 hO5 hO5' hpv hown hdv hM3 hN3 hB3 hO3 hM4 hB4 hO4 hS4 hB5 hU6 hne c1 c2;go_wp2_with (first | (with_reducible refine wpList_clear_run rfl (.tmp 23) 104 rfl rfl (HRUN4.out _) ?_) | (with_reducible refine wpList_clear_run rfl (.tmp 27) 105 rfl rfl (HRUN5.out _) ?_))
 go_ret;have h6:=Upd.one (w5.setCell ⟨p.d,3,none⟩ (.slice A 0 c)) p.d 6 (.int .i64 (S2.syncs+1));have h3:=Upd.one w5 p.d 3 (.slice A 0 c);have h36:=h3.same h6;have hD4:=HD4.out;have h5:Upd p.foot w4 w5:=HU5.out.mono fun k _ e=> .inr (.inr (.inr e))
 refine⟨.slice A 0 c,rfl,?_,?_,fun k hk=> ?_⟩
 ·rw[HS2.out];refine⟨HB6.out.set_ 6 _,(hD4.syn.upd HU5.out hD4.v_ms).upd h36 (fun e=>hD4.d_ms e.symm),(hD4.now.upd HU5.out hD4.v_mn).upd h36 (fun e=>hD4.d_mn e.symm),?_,hD4.ne⟩
  exact HO5.out.upd h36 fun k hk e=>HDV.out (by rw[←HOWN.out,hk,e])
 ·exact((((HU2.out.trans HU3.out fun k _ e=> .inr (.inl e)).trans HU4.out fun k _ e=> .inr (.inr (.inl e))).same h5).same foot_one).same foot_one
 ·rw[HOWN.out,←HPV.out]at hk;exact .inl hk
theorem dsync_gone{w:World}{p:DkP}{S:DiskS}(h:DiskAt w p S)(hfu:S.fuse≤9223372036854775807)(hg:S.gone=true):
 Calls Tryz.prog 102 #[.pointer (some ⟨p.d,0,none⟩)] w fun e w'=>e= .returned (.int .i64 40)∧DiskAt w' p S.step∧Upd p.foot w w':=by
 have HS:=step_ok h hfu;have hE:S.stepE=40:=by unfold DiskS.stepE;rw[hg];rfl
 rw[hE]at HS;have HS:=qh HS;clear h hfu hE hg;go_enter Tryz.func102,Tryz.ntmps102
 go_wp2_with fail
 refine HS.out.mono ?_;rintro e w2 ⟨rfl,hD2,hU2⟩;have HD2:=qh hD2;have HU2:=qh hU2;clear hD2 hU2;go_wp2_with fail
 go_ret;exact⟨rfl,HD2.out,HU2.out⟩
theorem dwrite_gone{w:World}{p:DkP}{S:DiskS}(h:DiskAt w p S)(hfu:S.fuse≤9223372036854775807)(n:Nat)(hn:n<S.size){v:Value}{b:Bs}(hv:BytesE w v b)(hb:b.length=256)(hg:S.gone=true):
 Calls Tryz.prog 154 #[.pointer (some ⟨p.d,0,none⟩),.int .i64 (n:Int),v] w fun e w'=>e= .returned (.int .i64 40)∧DiskAt w' p S.step∧Upd p.foot w w':=by
 obtain⟨A0,c0,rfl,_⟩:=hv.val;have HA:=qh (at_ok h n hn);have HS:=step_ok h hfu;have hE:S.stepE=40:=by unfold DiskS.stepE;rw[hg];rfl
 rw[hE]at HS;have HS:=qh HS;have hb':((b.length:Nat):Int)=256:=by omega
 clear h hfu hE hg hn hv hb;go_enter Tryz.func154,Tryz.ntmps154
 go_wp2_with fail
 refine HA.out.mono ?_;rintro e w1 ⟨rfl,rfl⟩;go_wp2_with fail
 refine HS.out.mono ?_;rintro e w2 ⟨rfl,hD2,hU2⟩;have HD2:=qh hD2;have HU2:=qh hU2;clear hD2 hU2;go_wp2_with fail
 go_ret;exact⟨rfl,HD2.out,HU2.out⟩
theorem sectors_ok{w:World}{p:DkP}{S:DiskS}(h:DiskAt w p S):Calls Tryz.prog 105 #[.pointer (some ⟨p.d,0,none⟩)] w fun e w'=>e= .returned (.int .i64 S.size)∧w'=w:=by
 have c0:=h.blk.cell 0;simp only[qA,qZ]at c0;clear h;go_enter Tryz.func105,Tryz.ntmps105
 go_wp2_with fail
 go_ret;exact⟨rfl,rfl⟩
theorem getD_get{b:Bs}{i:Nat}(h:i<b.length):b[i]? =some (b.getD i 0):=by
 rw[List.getD_eq_getElem?_getD,qeg h];rfl
theorem u8_bne{x y:UInt8}:((x.toNat:Int) != (y.toNat:Int))=(x != y):=by
 rw[Bool.eq_iff_iff];simp only[bne_iff_ne,ne_eq];rw[←UInt8.toNat_inj];omega
theorem next_ok{w:World}{v:Value}{b:Bs}(h:BytesE w v b)(hb:b.length=256):Calls Tryz.prog 152 #[v] w fun e w'=>e= .returned (.tuple #[.int .u8 (nextMark b).toNat,.int .i64 0])∧w'=w:=by
 obtain⟨bb,off,c,rfl,hbl,h0⟩:=byte_at h (getD_get (b:=b) (i:=0) (by omega))
 obtain⟨bb',off',c',he,_,h1⟩:=byte_at h (getD_get (b:=b) (i:=255) (by omega))
 injection he with he1 he2 he3
 injection he1 with he1
 injection he1 with e1 e2
 subst e1 e2;rw[Nat.add_zero]at h0;have hb':((b.length:Nat):Int)=256:=by omega
 have hM:nextMark b=if (1:UInt8)≠b.getD 0 0∧(1:UInt8)≠b.getD 255 0 then 1 else if (2:UInt8)≠b.getD 0 0∧(2:UInt8)≠b.getD 255 0 then 2 else 3:=rfl
 have HM:=qh hM;clear h hb he2 he3 hM;generalize b.getD 0 0=x at*;generalize b.getD 255 0=y at*;have H1:=qh h1;have H0:=qh h0;clear h0 h1;go_enter Tryz.func152,Tryz.ntmps152
 go_wp2_with fail
 go_step3
 go_wp2_with fail
 go_step3
 go_wp2_with fail
 go_loopw [4,9] (fun s4 s9 wr=>∃k:Nat,s9= .int .i64 (k:Int)∧k≤3∧(k=0∨s4= .int .u8 (k:Int))∧(1≤k→¬((1:UInt8)≠x∧(1:UInt8)≠y))∧(2≤k→¬((2:UInt8)≠x∧(2:UInt8)≠y))∧wr=w) (fun _ s9 _=>3 - (intOf s9).toNat)
 case atStart=>exact⟨0,rfl,by omega,.inl rfl,by omega,by omega,rfl⟩
 case round=>
  obtain⟨k,rfl,hk,hs,hn1,hn2,rfl⟩:=hrel;have h0:=H0.out;have h1:=H1.out
  rcases(by omega:k=3∨k=0∨k=1∨k=2) with rfl | rfl | rfl | rfl
  ·rcases hs with hs | rfl
   ·cases hs
   ·have e:nextMark b=3:=by rw[HM.out,if_neg (hn1 (by omega)),if_neg (hn2 (by omega))]
    have HE:=qh e;clear e hn1 hn2 hk;go_wp2_with fail
    rw[Exit.noGoto_ret];go_ret2;rw[HE.out];exact⟨rfl,rfl⟩
  ·by_cases hx:(1:UInt8)≠x
   ·have bx:((1:Int) != (x.toNat:Int))=true:=by
     have:=u8_bne (x:=1) (y:=x);rw[show((1:UInt8).toNat:Int)=1 from rfl]at this;rw[this];simpa using hx
    by_cases hy:(1:UInt8)≠y
    ·have by_:((1:Int) != (y.toNat:Int))=true:=by
      have:=u8_bne (x:=1) (y:=y);rw[show((1:UInt8).toNat:Int)=1 from rfl]at this;rw[this];simpa using hy
     have e:nextMark b=1:=by rw[HM.out,if_pos ⟨hx,hy⟩]
     have HE:=qh e;clear e hn1 hn2 hk hx hy hs;go_wp2_with fail
     rw[Exit.noGoto_ret];go_ret2;rw[HE.out];exact⟨rfl,rfl⟩
    ·have by_:((1:Int) != (y.toNat:Int))=false:=by
      have:=u8_bne (x:=1) (y:=y);rw[show((1:UInt8).toNat:Int)=1 from rfl]at this;rw[this];simpa using hy
     have N1:=qh hn1;have N2:=qh hn2;have HY:=qh hy;clear hn1 hn2 hk hx hy hs;go_wp2_with fail
     go_roundw
     case rel=>exact⟨1,by go_num,by omega,.inr rfl,fun _ h=>HY.out h.2,by omega,by trivial⟩
     case measure=>simp[intOf]
   ·have bx:((1:Int) != (x.toNat:Int))=false:=by
     have:=u8_bne (x:=1) (y:=x);rw[show((1:UInt8).toNat:Int)=1 from rfl]at this;rw[this];simpa using hx
    have N1:=qh hn1;have N2:=qh hn2;have HX:=qh hx;clear hn1 hn2 hk hx hs;go_wp2_with fail
    go_roundw
    case rel=>exact⟨1,by go_num,by omega,.inr rfl,fun _ h=>HX.out h.1,by omega,by trivial⟩
    case measure=>simp[intOf]
  ·by_cases hx:(2:UInt8)≠x
   ·have bx:((2:Int) != (x.toNat:Int))=true:=by
     have:=u8_bne (x:=2) (y:=x);rw[show((2:UInt8).toNat:Int)=2 from rfl]at this;rw[this];simpa using hx
    by_cases hy:(2:UInt8)≠y
    ·have by_:((2:Int) != (y.toNat:Int))=true:=by
      have:=u8_bne (x:=2) (y:=y);rw[show((2:UInt8).toNat:Int)=2 from rfl]at this;rw[this];simpa using hy
     have e:nextMark b=2:=by rw[HM.out,if_neg (hn1 (by omega)),if_pos ⟨hx,hy⟩]
     have HE:=qh e;clear e hn1 hn2 hk hx hy hs;go_wp2_with fail
     rw[Exit.noGoto_ret];go_ret2;rw[HE.out];exact⟨rfl,rfl⟩
    ·have by_:((2:Int) != (y.toNat:Int))=false:=by
      have:=u8_bne (x:=2) (y:=y);rw[show((2:UInt8).toNat:Int)=2 from rfl]at this;rw[this];simpa using hy
     have N1:=qh hn1;have N2:=qh hn2;have HY:=qh hy;clear hn1 hn2 hk hx hy hs;go_wp2_with fail
     go_roundw
     case rel=>exact⟨2,by go_num,by omega,.inr rfl,fun _=>N1.out (by omega),fun _ h=>HY.out h.2,by trivial⟩
     case measure=>simp[intOf]
   ·have bx:((2:Int) != (x.toNat:Int))=false:=by
     have:=u8_bne (x:=2) (y:=x);rw[show((2:UInt8).toNat:Int)=2 from rfl]at this;rw[this];simpa using hx
    have N1:=qh hn1;have N2:=qh hn2;have HX:=qh hx;clear hn1 hn2 hk hx hs;go_wp2_with fail
    go_roundw
    case rel=>exact⟨2,by go_num,by omega,.inr rfl,fun _=>N1.out (by omega),fun _ h=>HX.out h.1,by trivial⟩
    case measure=>simp[intOf]
  ·by_cases hx:(3:UInt8)≠x
   ·have bx:((3:Int) != (x.toNat:Int))=true:=by
     have:=u8_bne (x:=3) (y:=x);rw[show((3:UInt8).toNat:Int)=3 from rfl]at this;rw[this];simpa using hx
    by_cases hy:(3:UInt8)≠y
    ·have by_:((3:Int) != (y.toNat:Int))=true:=by
      have:=u8_bne (x:=3) (y:=y);rw[show((3:UInt8).toNat:Int)=3 from rfl]at this;rw[this];simpa using hy
     have e:nextMark b=3:=by rw[HM.out,if_neg (hn1 (by omega)),if_neg (hn2 (by omega))]
     have HE:=qh e;clear e hn1 hn2 hk hx hy hs;go_wp2_with fail
     rw[Exit.noGoto_ret];go_ret2;rw[HE.out];exact⟨rfl,rfl⟩
    ·have by_:((3:Int) != (y.toNat:Int))=false:=by
      have:=u8_bne (x:=3) (y:=y);rw[show((3:UInt8).toNat:Int)=3 from rfl]at this;rw[this];simpa using hy
     have N1:=qh hn1;have N2:=qh hn2;have HY:=qh hy;clear hn1 hn2 hk hx hy hs;go_wp2_with fail
     go_roundw
     case rel=>exact⟨3,by go_num,by omega,.inr rfl,fun _=>N1.out (by omega),fun _=>N2.out (by omega),by trivial⟩
     case measure=>simp[intOf]
   ·have bx:((3:Int) != (x.toNat:Int))=false:=by
     have:=u8_bne (x:=3) (y:=x);rw[show((3:UInt8).toNat:Int)=3 from rfl]at this;rw[this];simpa using hx
    have N1:=qh hn1;have N2:=qh hn2;have HX:=qh hx;clear hn1 hn2 hk hx hs;go_wp2_with fail
    go_roundw
    case rel=>exact⟨3,by go_num,by omega,.inr rfl,fun _=>N1.out (by omega),fun _=>N2.out (by omega),by trivial⟩
    case measure=>simp[intOf]
theorem run_copy_bytes{w:World}{g off dl dc:Nat}{cs:Array Value}{v:Value}{l:Bs}(hb:Blk w g 5 cs)(hE:BytesE w v l)(hl:l.length≤dl)(hfit:off+l.length≤cs.size):
 ∃w',(∀ty,(Builtin.copy_ #[143,143] ty #[.slice (some ⟨g,off,none⟩) dl dc,v]).run Tryz.prog w= .ok (goInt l.length) w')∧Blk w' g 5 (cs.toList.take off++bytesV l++cs.toList.drop (off+l.length)).toArray∧Upd (fun k=>k=g) w w'∧w'.heap.size=w.heap.size:=by
 obtain⟨A,c,rfl,hc,hlen,hr⟩:=hE;have hsz:(Tryz.prog.info? 5).map (·.size)=some 1:=by kernel_rfl
 rcases Nat.eq_zero_or_pos l.length with h0 | h0
 ·obtain rfl:=List.length_eq_zero_iff.1 h0;refine⟨w,fun ty=>by simpa using run_copy_none (P:=Tryz.prog) w _ _ ty _ _ A dl dc 0 c Tryz.underlying143 hsz (by simp),?_,Upd.refl _ _,rfl⟩
  simp only[List.length_nil,Nat.add_zero,bytesV,List.map_nil,List.append_nil,List.take_append_drop];exact hb
 ·obtain⟨ad,rfl,hbl,hs,hcell⟩:=hr h0;have hlv:(bytesV l).length=l.length:=bytesV_length l;have hfl:=flat_byteC l;rw[hfl]at hcell
  refine⟨_,fun ty=>by
   have:=run_copy_row (P:=Tryz.prog) w 143 143 ty 5 g off dl dc ad l.length c cs 5 (bytesV l) Tryz.underlying143 hsz hb (by rw[hlv];exact(Nat.min_eq_left hl).symm) hcell (by rw[hlv];exact hfit) (bytesV_one l)
   rw[hlv]at this;exact this,setRow_heap w g cs _ _ _ hb,⟨rfl,rfl,rfl,by simp[World.setRow],fun k _ hk=>setRow_other w g k _ hk⟩,by simp[World.setRow]⟩
section
variable {P:Program} {ops:Array Oper} {rest:List Oper} {o:Oper} {a:Act} {Q:Exit→Act→World→Prop} {w:World}
theorem wpList_copy_run(hg:o.guard=none)(x y:Operand)(t u:TypeId)(ho:o.op=Op.call { callee:=Callee.builtin Builtin.copy,args:=#[x,y],argTypes:=#[t,u] }){v1 v2 v':Value}{w':World}(hx:a.eval x=v1)(hy:a.eval y=v2)(hrun:(Builtin.copy_ #[t,u] o.type #[v1,v2]).run P w= .ok v' w')(h:wpList P ops Q rest (a.put o.dst v') w'):wpList P ops Q (o::rest) a w:=by
 refine wpList_plain hg fun K hK=> ?_
 unfold Oper.wp execOp;simp only[ho,resolve,invoke,builtin,Sem.run_bind,Sem.run_pure,Result.andThen_ok,List.map_toArray,List.map_cons,List.map_nil,hx,hy,hrun];exact hK _ _ h
end
theorem ends_set(n:Nat)(z a:Value):((List.replicate (n+2) z).set 0 a).set (n+1) a=a::(List.replicate n z++[a]):=by
 rw[List.replicate_succ,qsZ,qsS,List.replicate_succ',List.set_append_right _ _ (by simp)]
 simp
theorem wrap_cells(m:UInt8)(p:Bs)(hp:p.length≤254):(((Array.replicate 256 (Value.int .u8 0)).setIfInBounds 0 (byteV m)).setIfInBounds 255 (byteV m)).toList.take 1++bytesV p++(((Array.replicate 256 (Value.int .u8 0)).setIfInBounds 0 (byteV m)).setIfInBounds 255 (byteV m)).toList.drop (1+p.length)=bytesV (wrapB m p):=by
 have e0:=ends_set 254 (Value.int .u8 0) (byteV m)
 have e1:(((Array.replicate 256 (Value.int .u8 0)).setIfInBounds 0 (byteV m)).setIfInBounds 255 (byteV m)).toList=byteV m::(List.replicate 254 (Value.int .u8 0)++[byteV m]):=by
  rw[Array.toList_setIfInBounds,Array.toList_setIfInBounds,Array.toList_replicate];exact e0
 have hz:byteV 0= .int .u8 0:=rfl;rw[e1,Nat.add_comm 1,List.drop_succ_cons,List.drop_append_of_le_length (by rw[List.length_replicate];omega),List.drop_replicate]
 simp only[wrapB,padB,bytesV,List.map_cons,List.map_append,List.map_nil,List.map_replicate,List.take_succ_cons,List.take_zero,List.cons_append,List.nil_append,qaa,hz]
theorem wrap_ok{w:World}{v:Value}{p:Bs}(m:UInt8)(h1:1≤m)(h3:m≤3)(h:BytesE w v p)(hp:p.length≤254):Calls Tryz.prog 153 #[.int .u8 m.toNat,v] w fun e w'=>
 ∃g c,e= .returned (.tuple #[.slice (some ⟨g,0,none⟩) 256 c,.int .i64 0])∧OwnB w.heap.size w' (.slice (some ⟨g,0,none⟩) 256 c) (wrapB m p)∧Upd Nowhere w w':=by
 obtain⟨A0,c0,rfl,_⟩:=h.val;have hm1:¬(m.toNat:Int)<1:=by have:=UInt8.le_iff_toNat_le.1 h1;have e:(1:UInt8).toNat=1:=rfl;omega
 have hm3:¬(3:Int)<(m.toNat:Int):=by have:=UInt8.le_iff_toNat_le.1 h3;have e:(3:UInt8).toNat=3:=rfl;omega
 have hpi:¬(254:Int)<((p.length:Nat):Int):=by omega
 have hmk:=run_noughts;have hWC:=wrap_cells m p hp;have hs256:(Array.replicate 256 (Value.int .u8 0)).size=256:=Array.size_replicate;have hi:∀i,i<256→(Array.replicate 256 (Value.int .u8 0))[i]? =some (.int .u8 0):=fun i hi=>by rw[Array.getElem?_replicate,if_pos hi]
 have hm0:=hmk w;generalize (Array.replicate 256 (Value.int .u8 0))=cs at*;have x0:(w.alloc (.cells cs 5)).cell? ⟨w.heap.size,0,none⟩=some (.int .u8 0):=by rw[(Blk.new w 5 cs).cell];exact hi 0 (by omega)
 have y0:=(Blk.new w 5 cs).frozen 0
 have x255:(w.alloc (.cells (cs.setIfInBounds 0 (.int .u8 m.toNat)) 5)).cell? ⟨w.heap.size,255,none⟩=some (.int .u8 0):=by
  rw[(Blk.new w 5 _).cell,Array.getElem?_setIfInBounds_ne (by omega)];exact hi 255 (by omega)
 have y255:=(Blk.new w 5 (cs.setIfInBounds 0 (.int .u8 m.toNat))).frozen 255;unfold byteV at hWC;have hcs:((cs.setIfInBounds 0 (.int .u8 m.toNat)).setIfInBounds 255 (.int .u8 m.toNat)).size=256:=by simp[hs256]
 have hbs:=Blk.new w 5 ((cs.setIfInBounds 0 (.int .u8 m.toNat)).setIfInBounds 255 (.int .u8 m.toNat));have hE2:=h.alloc (.cells ((cs.setIfInBounds 0 (.int .u8 m.toNat)).setIfInBounds 255 (.int .u8 m.toNat)) 5);have hU0:=(Upd.refl Nowhere w).alloc (.cells ((cs.setIfInBounds 0 (.int .u8 m.toNat)).setIfInBounds 255 (.int .u8 m.toNat)) 5);obtain⟨w3,hrun,hb3,hu3,hsz3⟩:=run_copy_bytes (dl:=255) (dc:=255) (off:=1) hbs hE2 (by omega) (by rw[hcs];omega)
 rw[hWC]at hb3;have HRUN:=qh hrun;have HB3:=qh hb3;have HU3:=qh hu3;have HU0:=qh hU0;have HP:=qh hp;clear h hrun hb3 hu3 hU0 hE2 hbs hWC hs256 hcs hmk hp h1 h3 hi hsz3;go_enter Tryz.func153,Tryz.ntmps153
 go_wp2_with (with_reducible refine wpList_copy_run rfl (.tmp 26) (.tmp 27) 143 143 rfl rfl rfl (HRUN.out _) ?_)
 go_ret2;have hl:(wrapB m p).length=256:=wrapB_len m HP.out;refine⟨w.heap.size,256,rfl,⟨⟨flatMap_len byteC_len _,.inr ⟨w.heap.size,256,_,by rw[hl],Nat.zero_le _,HB3.out,by rw[hl];exact qlr _,by simp[maxLen],?_,?_⟩⟩,fun k hk=> ?_⟩,HU0.out.trans HU3.out fun k hk e=>by omega⟩
 ·rw[List.size_toArray,bytesV_length,hl]
 ·rw[flat_byteC,hl];exact List.take_of_length_le (by rw[bytesV_length,hl];omega)
 ·have:w.heap.size=k:=by simpa [Value.ownBlock] using hk
  omega
theorem ends_at{w:World}{v:Value}{b:Bs}(h:BytesE w v b)(hb:b.length=256):∃bb off c,v= .slice (some ⟨bb,off,none⟩) b.length c∧bb<w.heap.size∧w.cell? ⟨bb,off,none⟩=some (.int .u8 (b.getD 0 0).toNat)∧w.cell? ⟨bb,off+255,none⟩=some (.int .u8 (b.getD 255 0).toNat)∧b.length≤c:=by
 obtain⟨bb,off,c,rfl,hbl,h0⟩:=byte_at h (getD_get (b:=b) (i:=0) (by omega))
 obtain⟨bb',off',c',he,_,h1⟩:=byte_at h (getD_get (b:=b) (i:=255) (by omega))
 injection he with he1 he2 he3
 injection he1 with he1
 injection he1 with e1 e2
 subst e1 e2;rw[Nat.add_zero]at h0;obtain⟨_,_,e,hc,_⟩:=h;injection e with _ _ e3
 exact⟨bb,off,c,rfl,hbl,h0,h1,by omega⟩
theorem sopen_ok{w:World}{v:Value}{b pl:Bs}(h:BytesE w v b)(hb:b.length=256)(ho:openS b=some pl):Calls Tryz.prog 147 #[v] w fun e w'=>
 ∃A c,e= .returned (.tuple #[.slice A 254 c,.int .i64 0])∧OwnB w.heap.size w' (.slice A 254 c) pl∧Upd Nowhere w w':=by
 have hH:=h;obtain⟨bb,off,c,rfl,hbl,h0,h1,hc⟩:=ends_at h hb;have hE:=Els.part byteC_len hH 1 254 (by omega) (by omega:254≤c - 1) hbl
 rw[Nat.mul_one]at hE
 have hpl:(b.drop 1).take 254=pl:=by
  unfold openS at ho;split at ho
  ·exact Option.some.inj ho
  ·cases ho
 rw[hpl]at hE;have hlen:pl.length=254:=by rw[←hpl];simp;omega
 have hx:b.getD 0 0=b.getD 255 0∧1≤b.getD 0 0∧b.getD 0 0≤3:=by
  unfold openS at ho;split at ho
  ·assumption
  ·cases ho
 have hx1:¬((b.getD 0 0).toNat:Int)<1:=by have:=UInt8.le_iff_toNat_le.1 hx.2.1;have e:(1:UInt8).toNat=1:=rfl;omega
 have hx3:¬(3:Int)<((b.getD 0 0).toNat:Int):=by have:=UInt8.le_iff_toNat_le.1 hx.2.2;have e:(3:UInt8).toNat=3:=rfl;omega
 have hxy:(((b.getD 0 0).toNat:Int) != ((b.getD 255 0).toNat:Int))=false:=by rw[u8_bne,hx.1];simp
 obtain⟨g,c3,w3,hrun,ho3,hu3,hg⟩:=copy_bytes hE (by omega)
 rw[hlen]at hrun ho3;have hb':((b.length:Nat):Int)=256:=by omega
 have hc255:(255:Int)≤(c:Int):=by omega
 have hne:¬c=1:=by omega
 have HRUN:=qh hrun;have HO3:=qh ho3;have HU3:=qh hu3;clear h hH hE hpl hlen hx hrun ho3 hu3 ho hg hb;generalize b.getD 0 0=x at*;generalize b.getD 255 0=y at*;go_enter Tryz.func147,Tryz.ntmps147
 go_wp2_with (at_builtin;refine wpList_append_run rfl _ _ _ rfl rfl rfl HRUN.out ?_)
 go_ret2;exact⟨_,c3,rfl,HO3.out,HU3.out⟩
theorem sopen_torn{w:World}{v:Value}{b:Bs}(h:BytesE w v b)(hb:b.length=256)(ho:openS b=none):Calls Tryz.prog 147 #[v] w fun e w'=>
 e= .returned (.tuple #[.slice none 0 0,.int .i64 50])∧w'=w:=by
 obtain⟨bb,off,c,rfl,hbl,h0,h1,hc⟩:=ends_at h hb
 have hx:¬(b.getD 0 0=b.getD 255 0∧1≤b.getD 0 0∧b.getD 0 0≤3):=by
  unfold openS at ho;split at ho
  ·cases ho
  ·assumption
 have hb':((b.length:Nat):Int)=256:=by omega
 clear h ho hb;generalize b.getD 0 0=x at*;generalize b.getD 255 0=y at*;by_cases hxy:x=y
 ·subst hxy;have bxy:((x.toNat:Int) != (x.toNat:Int))=false:=by simp
  by_cases h1x:(x.toNat:Int)<1
  ·clear hx;go_enter Tryz.func147,Tryz.ntmps147
   go_wp2_with fail
   go_ret2;exact⟨rfl,rfl⟩
  ·have h3x:(3:Int)<(x.toNat:Int):=by
    have e1:(1:UInt8).toNat=1:=rfl;have e3:(3:UInt8).toNat=3:=rfl
    rcases Int.lt_or_le (3:Int) (x.toNat:Int) with h | h
    ·exact h
    ·exact absurd ⟨rfl,UInt8.le_iff_toNat_le.2 (by omega),UInt8.le_iff_toNat_le.2 (by omega)⟩ hx
   clear hx;go_enter Tryz.func147,Tryz.ntmps147
   go_wp2_with fail
   go_ret2;exact⟨rfl,rfl⟩
 ·have bxy:((x.toNat:Int) != (y.toNat:Int))=true:=by rw[u8_bne];simpa using hxy
  clear hx hxy;go_enter Tryz.func147,Tryz.ntmps147
  go_wp2_with fail
  go_ret2;exact⟨rfl,rfl⟩
theorem get_ok{w:World}{p:DkP}{S:DiskS}(h:DiskAt w p S)(n:Nat)(hn:n<S.size)(hd:S.down=false)(hl:(S.read n).length=256){pl:Bs}(ho:S.get n=some pl):Calls Tryz.prog 95 #[.pointer (some ⟨p.d,0,none⟩),.int .i64 (n:Int)] w fun e w'=>
 ∃A c,e= .returned (.tuple #[.slice A 254 c,.int .i64 0])∧OwnB w.heap.size w' (.slice A 254 c) pl∧Upd Nowhere w w':=by
 have HR:=qh (dread_ok h n hn hd);have HL:=qh hl;have HO:=qh ho;clear h hn hd hl ho;go_enter Tryz.func95,Tryz.ntmps95
 go_wp2_with fail
 refine HR.out.mono ?_;rintro e w1 ⟨c,rfl,hE,h8,hlt,hU⟩;have HE:=qh hE;have HU:=qh hU;have HLT:=qh hlt;clear hE hU h8 hlt;go_wp2_with fail
 refine(sopen_ok HE.out HL.out HO.out).mono ?_;rintro e w2 ⟨A,c2,rfl,hO,hU2⟩;have HO2:=qh hO;have HU2:=qh hU2;clear hO hU2;go_wp2_with fail
 go_ret2;exact⟨A,c2,rfl,HO2.out.far fun k hk=>Nat.le_trans HU.out.size (HO2.out.new k hk),HU.out.same HU2.out⟩
theorem get_torn{w:World}{p:DkP}{S:DiskS}(h:DiskAt w p S)(n:Nat)(hn:n<S.size)(hd:S.down=false)(hl:(S.read n).length=256)(ho:S.get n=none):Calls Tryz.prog 95 #[.pointer (some ⟨p.d,0,none⟩),.int .i64 (n:Int)] w fun e w'=>
 e= .returned (.tuple #[.slice none 0 0,.int .i64 50])∧Upd Nowhere w w':=by
 have HR:=qh (dread_ok h n hn hd);have HL:=qh hl;have HO:=qh ho;clear h hn hd hl ho;go_enter Tryz.func95,Tryz.ntmps95
 go_wp2_with fail
 refine HR.out.mono ?_;rintro e w1 ⟨c,rfl,hE,h8,hlt,hU⟩;have HE:=qh hE;have HU:=qh hU;clear hE hU h8 hlt;go_wp2_with fail
 refine(sopen_torn HE.out HL.out HO.out).mono ?_;rintro e w2 ⟨rfl,rfl⟩;go_wp2_with fail
 go_ret2;exact⟨rfl,HU.out⟩
def PutP(p:DkP)(S':DiskS)(x:Int)(w:World)(e:Ending)(w':World):Prop:=∃v',e= .returned (.int .i64 x)∧DiskAt w' (p.at_ v') S'∧Upd p.foot w w'∧NewV w p.v v'
theorem put_sector{w:World}{p:DkP}{S:DiskS}(h:DiskAt w p S)(hfu:S.fuse≤9223372036854775807)(n:Nat)(hn:n<S.size)(hl:(S.read n).length=256){v:Value}{pl:Bs}(hv:BytesE w v pl)(hp:pl.length≤254)(hpl:S.pend.length≤90000):
 Calls Tryz.prog 100 #[.pointer (some ⟨p.d,0,none⟩),.int .i64 (n:Int),v] w (PutP p (S.put n pl).1 (S.put n pl).2 w):=by
 obtain⟨A0,c0,rfl,_⟩:=hv.val;have hpi:¬(254:Int)<((pl.length:Nat):Int):=by omega
 have H:=qh h;have HV:=qh hv;have HP:=qh hp;have HL:=qh hl;have HPL:=qh hpl;have HFU:=qh hfu;have HN:=qh hn;clear h hv hp hl hpl hfu hn;by_cases hd:S.down=true
 ·have HR:=qh (dread_down H.out n HN.out hd);have hE:S.put n pl=(S,40):=by unfold DiskS.put;rw[if_pos hd]
  rw[hE];clear hE hd;go_enter Tryz.func100,Tryz.ntmps100
  go_wp2_with fail
  refine HR.out.mono ?_;rintro e w1 ⟨rfl,rfl⟩;go_wp2_with fail
  go_ret;exact⟨p.v,rfl,H.out,Upd.refl _ _,NewV.refl _ _⟩
 ·have hd':S.down=false:=by simpa using hd
  have HR:=qh (dread_ok H.out n HN.out hd');have hE:S.put n pl=S.write n (wrapB (nextMark (S.read n)) pl):=by unfold DiskS.put;rw[if_neg hd]
  rw[hE];clear hE hd hd';go_enter Tryz.func100,Tryz.ntmps100
  go_wp2_with fail
  refine HR.out.mono ?_;rintro e w1 ⟨c,rfl,hE,h8,hlt,hU⟩;have HE:=qh hE;have HU:=qh hU;have HV1:=qh (HV.out.upd hU fun _ _=>id)
  have HD1:=qh (H.out.up hU);clear hE hU h8 hlt;go_wp2_with fail
  refine(next_ok HE.out HL.out).mono ?_;rintro e w2 ⟨rfl,rfl⟩;have hM:=nextMark_ok (S.read n);have HM:=qh hM;clear hM;generalize nextMark (S.read n)=m at*;go_wp2_with fail
  refine(wrap_ok m HM.out.1 HM.out.2.1 HV1.out HP.out).mono ?_;rintro e w3 ⟨g,c3,rfl,hO3,hU3⟩;have HO3:=qh hO3;have HU3:=qh hU3;have HD3:=qh (HD1.out.up hU3);have hlen:(wrapB m pl).length=256:=wrapB_len m HP.out;have HLEN:=qh hlen
  have hgE:BytesE w3 (.slice (some ⟨g,0,none⟩) 256 c3) (wrapB m pl):=by
   have:=hO3.els;exact this
  have HGE:=qh hgE
  have hnf:∀k,(Value.slice (some ⟨g,0,none⟩) 256 c3).ownBlock=some k→¬p.foot k:=fun k hk hf=>by
   have h1:=hO3.new k hk;have h2:=H.out.lt k hf;have h3:=HU.out.size;omega
  have HNF:=qh hnf;clear hO3 hU3 hlen hgE hnf;go_wp2_with fail
  by_cases hg:S.gone=true
  ·refine(dwrite_gone HD3.out HFU.out n HN.out HGE.out HLEN.out hg).mono ?_;rintro e w4 ⟨rfl,hD4,hU4⟩;have HD4:=qh hD4;have HU4:=qh hU4;have HG:=qh hg;clear hD4 hU4 hg;go_wp2_with fail
   go_ret;have e:S.write n (wrapB m pl)=(S.step,40):=by unfold DiskS.write;rw[if_pos HG.out]
   rw[e];exact⟨p.v,rfl,HD4.out,(HU.out.any.same HU3.out.any).same HU4.out,NewV.refl _ _⟩
  ·have hg':S.gone=false:=by simpa using hg
   refine(dwrite_ok HD3.out HFU.out n HN.out HGE.out HNF.out HLEN.out HPL.out hg').mono ?_;rintro e w4 ⟨v4,rfl,hD4,hU4,hN4⟩;have HD4:=qh hD4;have HU4:=qh hU4;have HN4:=qh hN4;have HG:=qh hg;clear hD4 hU4 hg hg' hN4;go_wp2_with fail
   go_ret;have e:S.write n (wrapB m pl)=(S.step.wrote n (wrapB m pl),0):=by unfold DiskS.write;rw[if_neg HG.out]
   rw[e];refine⟨v4,rfl,HD4.out,(HU.out.any.same HU3.out.any).same HU4.out,fun k hk=> ?_⟩
   rcases HN4.out k hk with h | h
   ·exact .inl h
   ·exact .inr (Nat.le_trans HU.out.size (Nat.le_trans HU3.out.size h))
def MastS.arr(m:MastS):Array Value:=#[.int .i64 m.gen,.int .i64 m.inc,.int .i64 m.first,.int .i64 m.lsn,.int .i64 m.check]
def ptrs5(b:Nat):Array Value:=#[.pointer (some ⟨b,0,none⟩),.pointer (some ⟨b,1,none⟩),.pointer (some ⟨b,2,none⟩),.pointer (some ⟨b,3,none⟩),.pointer (some ⟨b,4,none⟩)]
theorem fields_ok(b:Nat)(w:World):Calls Tryz.prog 111 #[.pointer (some ⟨b,0,none⟩)] w fun e w'=>e= .returned (.agg (ptrs5 b))∧Upd Nowhere w w':=by
 go_enter Tryz.func111,Tryz.ntmps111
 go_wp2_with fail
 refine wp_region_tail 16 (by kernel_rfl) (by kernel_rfl) ?_
 simp only[List.take_succ_cons,List.take_zero,List.drop_succ_cons,List.drop_zero]
 repeat still_step
 refine wpStill_nil ?_;go_wp2_with fail
 exact bodyPost_ret (v:= .agg (ptrs5 b)) (by simp[results,Tryz.results111,go_sem,ptrs5]) rfl ⟨rfl,((Upd.refl _ w).alloc _).drew⟩
theorem i64_and1(g:Nat)(hg:g<9223372036854775808):bits .and .i64 (g:Int) 1=((g % 2:Nat):Int):=by
 have h1:(BitVec.ofInt 64 (g:Int)).toNat=g:=by rw[BitVec.ofInt_natCast,BitVec.toNat_ofNat];exact Nat.mod_eq_of_lt (by omega)
 have h2:(BitVec.ofInt 64 (1:Int)).toNat=1:=rfl
 show IntKind.i64.wrap ((BitVec.ofInt 64 (g:Int) &&& BitVec.ofInt 64 (1:Int)).toNat:Int)=_
 rw[BitVec.toNat_and,h1,h2,nat_mask1,IntWalk.i64_in _ (by omega)]
theorem ix5_0(a b c d e:Value)(w:World):(Instr.index 195 (.agg #[a,b,c,d,e]) (.int .i64 0)).run Tryz.prog w= .ok a w:=by kernel_rfl
theorem ix5_1(a b c d e:Value)(w:World):(Instr.index 195 (.agg #[a,b,c,d,e]) (.int .i64 1)).run Tryz.prog w= .ok b w:=by kernel_rfl
theorem ix5_2(a b c d e:Value)(w:World):(Instr.index 195 (.agg #[a,b,c,d,e]) (.int .i64 2)).run Tryz.prog w= .ok c w:=by kernel_rfl
theorem ix5_3(a b c d e:Value)(w:World):(Instr.index 195 (.agg #[a,b,c,d,e]) (.int .i64 3)).run Tryz.prog w= .ok d w:=by kernel_rfl
theorem ix5_4(a b c d e:Value)(w:World):(Instr.index 195 (.agg #[a,b,c,d,e]) (.int .i64 4)).run Tryz.prog w= .ok e w:=by kernel_rfl
theorem mmay_ok(m:MastS)(hm:m.may=true)(w:World):Calls Tryz.prog 110 #[.agg m.arr] w fun e w'=>e= .returned (.bool true)∧Upd Nowhere w w':=by
 obtain⟨h0,h1,h2,h3,h4,h5⟩:=MastS.may_nums hm;obtain⟨gen,inc,first,lsn,check⟩:=m;simp only at h0 h1 h2 h3 h4 h5;have a0:¬gen<0:=by omega
 have b0:¬(1099511627776:Int)<gen:=by omega
 have a1:¬inc<0:=by omega
 have b1:¬(1099511627776:Int)<inc:=by omega
 have a2:¬first<0:=by omega
 have b2:¬(1099511627776:Int)<first:=by omega
 have a3:¬lsn<0:=by omega
 have b3:¬(1099511627776:Int)<lsn:=by omega
 have a4:¬check<0:=by omega
 have b4:¬(1099511627776:Int)<check:=by omega
 clear h0 h1 h2 h3 h4 hm;unfold MastS.arr;simp only;have hB:=Blk.new w 115 #[.int .i64 gen,.int .i64 inc,.int .i64 first,.int .i64 lsn,.int .i64 check];have hU0:=(Upd.refl Nowhere w).alloc (.cells #[.int .i64 gen,.int .i64 inc,.int .i64 first,.int .i64 lsn,.int .i64 check] 115);have HB:=qh hB;have HU0:=qh hU0;clear hB hU0;go_enter Tryz.func110,Tryz.ntmps110
 go_wp2_with fail
 refine(fields_ok w.heap.size _).mono ?_;rintro e w1 ⟨rfl,hU1⟩;have HB1:=qh (HB.out.upd hU1 id);have HU1:=qh hU1;clear hU1;unfold ptrs5;go_wp2_with fail
 go_loopw [6] (fun s6 wr=>∃k:Nat,s6= .int .i64 (k:Int)∧k≤5∧wr=w1) (fun s6 _=>5 - (intOf s6).toNat)
 case atStart=>exact⟨0,rfl,by omega,rfl⟩
 case round=>
  obtain⟨k,rfl,hk,rfl⟩:=hrel
  rcases(by omega:k=5∨k=0∨k=1∨k=2∨k=3∨k=4) with rfl | rfl | rfl | rfl | rfl | rfl
  ·have c0:=HB1.out.cell 0;simp only[qA,qZ]at c0;go_wp2_with fail
   go_ret;exact⟨rfl,HU0.out.same HU1.out⟩
  ·have c0:=HB1.out.cell 0;simp only[qA,qZ]at c0;have hix:=ix5_0;go_wp2_with fail
   go_roundw
   case rel=>exact⟨1,by go_num,by omega,by trivial⟩
   case measure=>simp[intOf]
  ·have c1:=HB1.out.cell 1;simp only[qA,qZ,qS]at c1;have hix:=ix5_1;go_wp2_with fail
   go_roundw
   case rel=>exact⟨2,by go_num,by omega,by trivial⟩
   case measure=>simp[intOf]
  ·have c2:=HB1.out.cell 2;simp only[qA,qZ,qS]at c2;have hix:=ix5_2;go_wp2_with fail
   go_roundw
   case rel=>exact⟨3,by go_num,by omega,by trivial⟩
   case measure=>simp[intOf]
  ·have c3:=HB1.out.cell 3;simp only[qA,qZ,qS]at c3;have hix:=ix5_3;go_wp2_with fail
   go_roundw
   case rel=>exact⟨4,by go_num,by omega,by trivial⟩
   case measure=>simp[intOf]
  ·have c4:=HB1.out.cell 4;simp only[qA,qZ,qS]at c4;have hix:=ix5_4;go_wp2_with fail
   go_roundw
   case rel=>exact⟨5,by go_num,by omega,by trivial⟩
   case measure=>simp[intOf]
def payN(l:List Int):Bs:=l.flatMap fun n=>shortB n.toNat
theorem payN_snoc(l:List Int)(n:Int):payN (l++[n])=payN l++shortB n.toNat:=by simp[payN]
theorem short6{n:Int}(h:0≤n∧n≤1099511627776):(shortB n.toNat).length≤6:=shortB_len_le (k:=5) (by omega)
theorem step_fuse(S:DiskS)(h:S.fuse≤9223372036854775807):S.step.fuse≤9223372036854775807:=by
 unfold DiskS.step;split
 ·exact h
 ·simp only;split<;>omega
theorem step_syncs(S:DiskS):S.step.syncs=S.syncs:=by unfold DiskS.step;split<;>rfl
theorem step_pend(S:DiskS):S.step.pend=S.pend:=by unfold DiskS.step;split<;>rfl
theorem step_size(S:DiskS):S.step.size=S.size:=by unfold DiskS.step;split<;>rfl
theorem put_keeps(S:DiskS)(n:Int)(b:Bs):(S.fuse≤9223372036854775807→(S.put n b).1.fuse≤9223372036854775807)∧(S.put n b).1.syncs=S.syncs∧(S.put n b).1.size=S.size∧(S.put n b).1.pend.length≤S.pend.length+1:=by
 unfold DiskS.put;split
 ·exact⟨id,rfl,rfl,Nat.le_succ _⟩
 ·unfold DiskS.write;split
  ·exact⟨step_fuse S,step_syncs S,step_size S,by rw[step_pend];exact Nat.le_succ _⟩
  ·exact⟨step_fuse S,step_syncs S,step_size S,by simp[DiskS.wrote,step_pend]⟩
theorem pay_len{m:MastS}(h:m.may=true):m.pay.length≤30:=by
 obtain⟨h0,h1,h2,h3,h4,h5⟩:=MastS.may_nums h;have a0:=short6 h0;have a1:=short6 h1;have a2:=short6 h2;have a3:=short6 h3;have a4:=short6 h4;simp[MastS.pay,MastS.list];omega
theorem save_ok{w:World}{p:DkP}{S:DiskS}(h:DiskAt w p S)(hfu:S.fuse≤9223372036854775807)(hsy:0≤S.syncs∧S.syncs≤3000000000)(hsz:2≤S.size)(hl:∀n:Int,(S.read n).length=256)(hpl:S.pend.length≤80000)(m:MastS)(hm:m.may=true):
 Calls Tryz.prog 58 #[.pointer (some ⟨p.d,0,none⟩),.agg m.arr] w (PutP p (S.save m).1 (S.save m).2 w):=by
 obtain⟨h0,h1,h2,h3,h4,h5⟩:=MastS.may_nums hm;have HPAY:=qh (pay_len hm);have hB:=Blk.new w 115 m.arr;have hU0:=(Upd.refl Nowhere w).alloc (.cells m.arr 115);have HM:=qh (fun w=>mmay_ok m hm w)
 have H0:=qh h0;have H1:=qh h1;have H2:=qh h2;have H3:=qh h3;have H4:=qh h4;have HD:=qh h;have HB:=qh hB;have HU0:=qh hU0;have HFU:=qh hfu;have HSY:=qh hsy;have HSZ:=qh hsz;have HL:=qh hl;have HPL:=qh hpl;have HMAY:=qh hm;obtain⟨gen,inc,first,lsn,check⟩:=m;unfold MastS.arr at HB HU0 HM ⊢;simp only at HB HU0 HM h0 h5;clear h0 h1 h2 h3 h4 h5 hm h hB hU0 hfu hsy hsz hl hpl;go_enter Tryz.func58,Tryz.ntmps58
 go_wp2_with fail
 refine(HM.out _).mono ?_;rintro e w1 ⟨rfl,hU1⟩;have HB1:=qh (HB.out.upd hU1 id);have HU1:=qh (HU0.out.same hU1);have hlt1:=HB1.out.lt;clear hU1;go_wp2_with fail
 have hBW:=Blk.new w1 193 #[.slice none 0 0];have hWA:WAt w1.heap.size (w1.alloc (.cells #[.slice none 0 0] 193)) w1.heap.size []:=⟨⟨none,0,hBW,OwnR.nil _ _ _ _ _⟩,qlr _⟩;have HWA:=qh hWA;clear hWA hBW;refine(fields_ok w.heap.size _).mono ?_;rintro e w2 ⟨rfl,hU2⟩;have hU2':=((Upd.refl Nowhere w1).alloc (.cells #[.slice none 0 0] 193)).same hU2;have HB2:=qh (HB1.out.upd hU2' id);have HWA2:=qh (HWA.out.upd hU2 fun _ _ _=>id)
 have HU2:=qh (HU1.out.same hU2');have HS2:Hid (w1.heap.size≤w2.heap.size):=qh hU2'.size;clear hU2 hU2';unfold ptrs5;go_wp2_with fail
 go_loopw [13] (fun s13 wr=>∃k:Nat,s13= .int .i64 (k:Int)∧k≤5∧WAt w1.heap.size wr w1.heap.size (payN (([gen,inc,first,lsn,check]:List Int).take k))∧Upd (fun k=>w1.heap.size≤k) w2 wr) (fun s13 _=>5 - (intOf s13).toNat)
 case atStart=>exact⟨0,rfl,by omega,HWA2.out,Upd.refl _ _⟩
 case round=>
  obtain⟨k,rfl,hk,hW,hu⟩:=hrel;have HW:=qh hW;have HU:=qh hu;have HB3:=qh (HB2.out.upd hu (by omega))
  clear hW hu
  rcases(by omega:k=5∨k=0∨k=1∨k=2∨k=3∨k=4) with rfl | rfl | rfl | rfl | rfl | rfl
  ·have c0:=HB3.out.cell 0;simp only[qA,qZ]at c0;obtain⟨n,hn⟩:∃n:Nat,gen=(n:Int):=⟨gen.toNat,by have:=H0.out;omega⟩
   rw[hn]at c0;have hnl:n<9223372036854775808:=by have:=H0.out;omega
   have hand:=i64_and1 n hnl;have hmod:gen % 2=(n:Int) % 2:=by omega
   have HMM:Hid (((n % 2:Nat):Int)=(n:Int) % 2):=qh (by omega)
   have HN:=qh hn;have HMOD:=qh hmod;have hfar:∀k,p.foot k→¬w1.heap.size≤k:=fun k hk h=>by have:=HD.out.lt k hk;have:=hlt1;omega
   have hDr:DiskAt wr p S:=((HD.out.up HU2.out).upd HU.out hfar);have HDR:=qh hDr;have hlen:(payN (([gen,inc,first,lsn,check]:List Int).take 5)).length≤30:=HPAY.out;have hS0:S.save ⟨gen,inc,first,lsn,check⟩=(match S.put (gen % 2) (payN (([gen,inc,first,lsn,check]:List Int).take 5)) with | (S1,e)=>if e≠0 then (S1,e) else S1.sync):=rfl
   have hW5:=HW.out;generalize payN (([gen,inc,first,lsn,check]:List Int).take 5)=pl at hlen hS0 hW5;have HS0:=qh hS0;have HW:=qh hW5;clear hS0 hW5;have HLEN:=qh hlen;clear hn hnl hmod hfar hDr hlen;go_wp2_with fail
   have HNB:Hid (¬p.foot w.heap.size):=qh fun hk=>by have:=HD.out.lt _ hk;omega
   go_region_held3 (fun w'=>w'.cell? ⟨w.heap.size,0,none⟩=some (.int .i64 (n:Int))) (first | exact c0 | exact hy4 | exact hy5)
    (first
      | (go_at_call 113
         refine(wbytes_ok (w:=wr.drew) (HW.out.upd ((Upd.refl Nowhere wr).drew) fun _ _ _=>id) (by have:=HLEN.out;omega)).mono ?_
         rintro e w4 ⟨A4,c4,rfl,hO4,hU4⟩;have HE4:=qh hO4.els;have HD4:=qh ((HDR.out.up ((Upd.refl Nowhere wr).drew)).up hU4);have HU4:Hid (Upd Nowhere wr w4):=qh (((Upd.refl Nowhere wr).drew).same hU4);have hy4:w4.cell? ⟨w.heap.size,0,none⟩=some (.int .i64 (n:Int)):=(HU4.out.cell (p:=⟨w.heap.size,0,none⟩) HB3.out.lt id).trans c0;clear hO4 hU4)
      | (go_at_call 100
         refine(put_sector HD4.out HFU.out (n % 2) (by have:=HSZ.out;omega) (HL.out _) HE4.out (by have:=HLEN.out;omega) (by have:=HPL.out;omega)).mono ?_
         rintro e w5 ⟨v5,rfl,hD5,hU5,hN5⟩;have hy5:w5.cell? ⟨w.heap.size,0,none⟩=some (.int .i64 (n:Int)):=(hU5.cell (p:=⟨w.heap.size,0,none⟩) (Nat.lt_of_lt_of_le HB3.out.lt HU4.out.size) HNB.out).trans hy4;have HD5':=qh hD5;have HU5':=qh hU5;have HN5':=qh hN5;clear hD5 hU5 hN5))
   all_goals
    have hD5:=HD5'.out;rw[HMM.out]at hD5;have hU5:=HU5'.out;have hN5:=HN5'.out;have hS:=HS0.out;rw[HMOD.out]at hS;have hQ:=put_keeps S ((n:Int) % 2) pl;generalize S.put ((n:Int) % 2) pl=T at hD5 hQ hS ⊢;obtain⟨S1,x⟩:=T;simp only at hD5 hQ hS;have hu05:Upd p.foot w w5:=((HU2.out.any.trans HU.out fun k hk h=>absurd h (by omega)).same HU4.out.any).same hU5
    have hw0:w.heap.size≤w4.heap.size:=Nat.le_trans HU2.out.size (Nat.le_trans HU.out.size HU4.out.size)
    have hn05:NewV w p.v v5:=fun k hk=>by
     rcases hN5 k hk with h | h
     ·exact .inl h
     ·exact .inr (Nat.le_trans hw0 h)
    have HD5:=qh hD5;have HU05:=qh hu05;have HN05:=qh hn05;have HQ:=qh hQ;have HSV:=qh hS;clear hS hD5 hU5 hN5 hQ hu05 hn05;by_cases hx:x=0
    ·subst hx;by_cases hg:S1.gone=true
     ·have HG:=qh hg;clear hg;go_wp2_with fail
      refine(dsync_gone HD5.out (HQ.out.1 HFU.out) HG.out).mono ?_;rintro e w6 ⟨rfl,hD6,hU6⟩;have HD6:=qh hD6;have HU6:=qh hU6;clear hD6 hU6;go_wp2_with fail
      go_ret;have e:S1.sync=(S1.step,40):=by unfold DiskS.sync;rw[if_pos HG.out]
      rw[HSV.out];simp only[ne_eq,not_true_eq_false,if_false,e];exact⟨v5,rfl,HD6.out,foot_step HU05.out HN05.out HU6.out,HN05.out⟩
     ·have hg':S1.gone=false:=by simpa using hg
      have HG:=qh hg;have HG':=qh hg';clear hg hg';go_wp2_with fail
      refine(dsync_ok HD5.out (HQ.out.1 HFU.out) (by have:=HSY.out;rw[HQ.out.2.1];omega) HG'.out).mono ?_
      rintro e w6 ⟨v6,rfl,hD6,hU6,hN6⟩;have HD6:=qh hD6;have HU6:=qh hU6;have HN6:=qh hN6;clear hD6 hU6 hN6;go_wp2_with fail
      go_ret;have e:S1.sync=(S1.step.flushed,0):=by unfold DiskS.sync;rw[if_neg HG.out]
      rw[HSV.out];simp only[ne_eq,not_true_eq_false,if_false,e];exact⟨v6,rfl,HD6.out,foot_step HU05.out HN05.out HU6.out,HN05.out.trans HN6.out HU05.out.size⟩
    ·have hx':(x != 0)=true:=by simpa using hx
     have HX:=qh hx;clear hx;go_wp2_with fail
     go_ret;rw[HSV.out,if_pos HX.out];exact⟨v5,rfl,HD5.out,HU05.out,HN05.out⟩
  ·have c0:=HB3.out.cell 0;simp only[qA,qZ]at c0;have hix:=ix5_0;obtain⟨n,hn⟩:∃n:Nat,gen=(n:Int):=⟨gen.toNat,by have:=H0.out;omega⟩
   have HN:=qh hn;have hn2:n<9223372036854775808:=by have:=H0.out;omega
   have HN2:=qh hn2
   have hlen:(payN (([gen,inc,first,lsn,check]:List Int).take 0)).length≤90000:=by
    have e0:=short6 H0.out;have e1:=short6 H1.out;have e2:=short6 H2.out;have e3:=short6 H3.out;have e4:=short6 H4.out;simp[payN]
    try omega
   have HLEN:=qh hlen;rw[hn]at c0;clear hn hn2 hlen;go_wp2_with fail
   refine(wnum_ok HW.out n HN2.out HLEN.out).mono ?_;rintro e w4 ⟨rfl,hW4,hU4⟩;have HW4:=qh hW4;have HU4:=qh hU4;clear hW4 hU4;go_wp2_with fail
   go_roundw
   case rel=>
    refine⟨1,by go_num,by omega,?_,HU.out.same HU4.out⟩
    have:=HW4.out;have e:shortB n=shortB gen.toNat:=by rw[HN.out];rfl
    rw[e,←payN_snoc]at this;exact this
   case measure=>simp[intOf]
  ·have c1:=HB3.out.cell 1;simp only[qA,qZ,qS]at c1;have hix:=ix5_1;obtain⟨n,hn⟩:∃n:Nat,inc=(n:Int):=⟨inc.toNat,by have:=H1.out;omega⟩
   have HN:=qh hn;have hn2:n<9223372036854775808:=by have:=H1.out;omega
   have HN2:=qh hn2
   have hlen:(payN (([gen,inc,first,lsn,check]:List Int).take 1)).length≤90000:=by
    have e0:=short6 H0.out;have e1:=short6 H1.out;have e2:=short6 H2.out;have e3:=short6 H3.out;have e4:=short6 H4.out;simp[payN]
    try omega
   have HLEN:=qh hlen;rw[hn]at c1;clear hn hn2 hlen;go_wp2_with fail
   refine(wnum_ok HW.out n HN2.out HLEN.out).mono ?_;rintro e w4 ⟨rfl,hW4,hU4⟩;have HW4:=qh hW4;have HU4:=qh hU4;clear hW4 hU4;go_wp2_with fail
   go_roundw
   case rel=>
    refine⟨2,by go_num,by omega,?_,HU.out.same HU4.out⟩
    have:=HW4.out;have e:shortB n=shortB inc.toNat:=by rw[HN.out];rfl
    rw[e,←payN_snoc]at this;exact this
   case measure=>simp[intOf]
  ·have c2:=HB3.out.cell 2;simp only[qA,qZ,qS]at c2;have hix:=ix5_2;obtain⟨n,hn⟩:∃n:Nat,first=(n:Int):=⟨first.toNat,by have:=H2.out;omega⟩
   have HN:=qh hn;have hn2:n<9223372036854775808:=by have:=H2.out;omega
   have HN2:=qh hn2
   have hlen:(payN (([gen,inc,first,lsn,check]:List Int).take 2)).length≤90000:=by
    have e0:=short6 H0.out;have e1:=short6 H1.out;have e2:=short6 H2.out;have e3:=short6 H3.out;have e4:=short6 H4.out;simp[payN]
    try omega
   have HLEN:=qh hlen;rw[hn]at c2;clear hn hn2 hlen;go_wp2_with fail
   refine(wnum_ok HW.out n HN2.out HLEN.out).mono ?_;rintro e w4 ⟨rfl,hW4,hU4⟩;have HW4:=qh hW4;have HU4:=qh hU4;clear hW4 hU4;go_wp2_with fail
   go_roundw
   case rel=>
    refine⟨3,by go_num,by omega,?_,HU.out.same HU4.out⟩
    have:=HW4.out;have e:shortB n=shortB first.toNat:=by rw[HN.out];rfl
    rw[e,←payN_snoc]at this;exact this
   case measure=>simp[intOf]
  ·have c3:=HB3.out.cell 3;simp only[qA,qZ,qS]at c3;have hix:=ix5_3;obtain⟨n,hn⟩:∃n:Nat,lsn=(n:Int):=⟨lsn.toNat,by have:=H3.out;omega⟩
   have HN:=qh hn;have hn2:n<9223372036854775808:=by have:=H3.out;omega
   have HN2:=qh hn2
   have hlen:(payN (([gen,inc,first,lsn,check]:List Int).take 3)).length≤90000:=by
    have e0:=short6 H0.out;have e1:=short6 H1.out;have e2:=short6 H2.out;have e3:=short6 H3.out;have e4:=short6 H4.out;simp[payN]
    try omega
   have HLEN:=qh hlen;rw[hn]at c3;clear hn hn2 hlen;go_wp2_with fail
   refine(wnum_ok HW.out n HN2.out HLEN.out).mono ?_;rintro e w4 ⟨rfl,hW4,hU4⟩;have HW4:=qh hW4;have HU4:=qh hU4;clear hW4 hU4;go_wp2_with fail
   go_roundw
   case rel=>
    refine⟨4,by go_num,by omega,?_,HU.out.same HU4.out⟩
    have:=HW4.out;have e:shortB n=shortB lsn.toNat:=by rw[HN.out];rfl
    rw[e,←payN_snoc]at this;exact this
   case measure=>simp[intOf]
  ·have c4:=HB3.out.cell 4;simp only[qA,qZ,qS]at c4;have hix:=ix5_4;obtain⟨n,hn⟩:∃n:Nat,check=(n:Int):=⟨check.toNat,by have:=H4.out;omega⟩
   have HN:=qh hn;have hn2:n<9223372036854775808:=by have:=H4.out;omega
   have HN2:=qh hn2
   have hlen:(payN (([gen,inc,first,lsn,check]:List Int).take 4)).length≤90000:=by
    have e0:=short6 H0.out;have e1:=short6 H1.out;have e2:=short6 H2.out;have e3:=short6 H3.out;have e4:=short6 H4.out;simp[payN]
    try omega
   have HLEN:=qh hlen;rw[hn]at c4;clear hn hn2 hlen;go_wp2_with fail
   refine(wnum_ok HW.out n HN2.out HLEN.out).mono ?_;rintro e w4 ⟨rfl,hW4,hU4⟩;have HW4:=qh hW4;have HU4:=qh hU4;clear hW4 hU4;go_wp2_with fail
   go_roundw
   case rel=>
    refine⟨5,by go_num,by omega,?_,HU.out.same HU4.out⟩
    have:=HW4.out;have e:shortB n=shortB check.toNat:=by rw[HN.out];rfl
    rw[e,←payN_snoc]at this;exact this
   case measure=>simp[intOf]
def numsR:Nat→RS→List Nat×RS
 | 0,s=>([],s)
 | k+1,s=>((numsR k s).1++[(numR 1099511627776 (numsR k s).2).1],(numR 1099511627776 (numsR k s).2).2)
theorem numsR_len(k:Nat)(s:RS):(numsR k s).1.length=k:=by
 induction k with
 | zero=>rfl
 | succ k ih=>simp[numsR,ih]
theorem numR_left(most:Nat)(s:RS):(numR most s).2.1.length≤s.1.length:=by
 unfold numR;split
 ·exact qlr _
 ·generalize numberB s.1 most=T;obtain⟨n,k,e⟩:=T;simp only;split
  ·exact qlr _
  ·simp
theorem numsR_left(k:Nat)(s:RS):(numsR k s).2.1.length≤s.1.length:=by
 induction k with
 | zero=>exact qlr _
 | succ k ih=>exact Nat.le_trans (numR_left _ _) ih
def arrN(l:List Nat):Array Value:=((l++List.replicate (5 - l.length) 0).map fun n:Nat=>Value.int .i64 (n:Int)).toArray
theorem mastOf_arr:∀l:List Nat,l.length=5→(mastOf l).arr=arrN l
 | [_,_,_,_,_],_=>rfl
theorem mread_ok{w:World}{v:Value}{pl:Bs}(h:BytesE w v pl)(hl:pl.length≤254):Calls Tryz.prog 107 #[v] w fun e w'=>e= .returned (.tuple #[.agg (readM pl).1.arr,.bool (readM pl).2])∧Upd Nowhere w w':=by
 obtain⟨A0,c0,rfl,_⟩:=h.val;have hZ:(w.alloc (.cells #[.int .i64 0,.int .i64 0,.int .i64 0,.int .i64 0,.int .i64 0] 115)).heap.size=w.heap.size+1:=by simp
 have hB1:=(Blk.new w 115 #[.int .i64 0,.int .i64 0,.int .i64 0,.int .i64 0,.int .i64 0]).alloc (.cells #[.int .i64 0,.int .i64 0,.int .i64 0,.int .i64 0,.int .i64 0] 115);have hB2:=Blk.new' (w.alloc (.cells #[.int .i64 0,.int .i64 0,.int .i64 0,.int .i64 0,.int .i64 0] 115)) 115 #[.int .i64 0,.int .i64 0,.int .i64 0,.int .i64 0,.int .i64 0] hZ.symm;have hE:=(h.alloc (.cells #[.int .i64 0,.int .i64 0,.int .i64 0,.int .i64 0,.int .i64 0] 115)).alloc (.cells #[.int .i64 0,.int .i64 0,.int .i64 0,.int .i64 0,.int .i64 0] 115);have hU0:=((Upd.refl Nowhere w).alloc (.cells #[.int .i64 0,.int .i64 0,.int .i64 0,.int .i64 0,.int .i64 0] 115)).alloc (.cells #[.int .i64 0,.int .i64 0,.int .i64 0,.int .i64 0,.int .i64 0] 115);have HB1:=qh hB1;have HB2:=qh hB2;have HE:=qh hE;have HU0:=qh hU0;have HL:=qh hl;clear h hZ hB1 hB2 hE hU0 hl;go_enter Tryz.func107,Tryz.ntmps107
 go_wp2_with fail
 refine(read_ok HE.out (by have:=HL.out;omega)).mono ?_
 rintro e w1 ⟨R,rfl,hR,hRA,hU1⟩;have hs1:w.heap.size+2≤R:=by simp at hR;omega
 have HRA:=qh hRA;have HU1:=qh (HU0.out.same hU1);have HC1:=qh (HB1.out.upd hU1 id);have HC2:=qh (HB2.out.upd hU1 id);clear hR hRA hU1;go_wp2_with fail
 refine(fields_ok (w.heap.size+1) _).mono ?_;rintro e w2 ⟨rfl,hU2⟩;have HRA2:=qh (HRA.out.upd hU2 id fun _ h=>absurd h id)
 have HU2:=qh (HU1.out.same hU2);have HD1:=qh (HC1.out.upd hU2 id);have HD2:=qh (HC2.out.upd hU2 id);clear hU2;unfold ptrs5;go_wp2_with fail
 go_loopw [11] (fun s11 wr=>∃k:Nat,s11= .int .i64 (k:Int)∧k≤5∧RAt wr R (numsR k (pl,0)).2∧Blk wr (w.heap.size+1) 115 (arrN (numsR k (pl,0)).1)∧Upd (fun x=>x=R∨x=w.heap.size+1) w2 wr) (fun s11 _=>5 - (intOf s11).toNat)
 case atStart=>exact⟨0,rfl,by omega,HRA2.out,HD2.out,Upd.refl _ _⟩
 case round=>
  obtain⟨k,rfl,hk,hRr,hBr,hur⟩:=hrel;have HRr:=qh hRr;have HBr:=qh hBr;have HUr:=qh hur;have HLN:=qh (numsR_len k (pl,0));have HLF:=qh (numsR_left k (pl,0));have hne:R≠w.heap.size+1:=by omega
  clear hRr hBr hur
  rcases(by omega:k=5∨k=0∨k=1∨k=2∨k=3∨k=4) with rfl | rfl | rfl | rfl | rfl | rfl
  ·have hln:=HLN.out;have hB:=HBr.out;have hRR:=HRr.out;have hM:readM pl=(mastOf (numsR 5 (pl,0)).1,(numsR 5 (pl,0)).2.2 == 0):=rfl;have hma:=mastOf_arr (numsR 5 (pl,0)).1 hln;generalize numsR 5 (pl,0)=T at hln hB hRR hM hma;obtain⟨l,s⟩:=T;simp only at hln hB hRR hM hma
   obtain⟨x0,l,rfl⟩:∃a t,l=a::t:=by cases l with
    | nil=>simp at hln
    | cons a t=>exact⟨a,t,rfl⟩
   obtain⟨x1,l,rfl⟩:∃a t,l=a::t:=by cases l with
    | nil=>simp at hln
    | cons a t=>exact⟨a,t,rfl⟩
   obtain⟨x2,l,rfl⟩:∃a t,l=a::t:=by cases l with
    | nil=>simp at hln
    | cons a t=>exact⟨a,t,rfl⟩
   obtain⟨x3,l,rfl⟩:∃a t,l=a::t:=by cases l with
    | nil=>simp at hln
    | cons a t=>exact⟨a,t,rfl⟩
   obtain⟨x4,l,rfl⟩:∃a t,l=a::t:=by cases l with
    | nil=>simp at hln
    | cons a t=>exact⟨a,t,rfl⟩
   obtain rfl:l=[]:=by cases l with
    | nil=>rfl
    | cons a t=>simp at hln
   have e0:arrN [x0,x1,x2,x3,x4]=#[.int .i64 (x0:Nat),.int .i64 (x1:Nat),.int .i64 (x2:Nat),.int .i64 (x3:Nat),.int .i64 (x4:Nat)]:=rfl;rw[e0]at hB hma;have c0:=hB.cell 0;have c1:=hB.cell 1;have c2:=hB.cell 2;have c3:=hB.cell 3;have c4:=hB.cell 4;simp only[qA,qZ,qS]at c0 c1 c2 c3 c4;have hD:=HD1.out.upd HUr.out (by omega)
   have d0:=hD.cell 0;have d1:=hD.cell 1;have d2:=hD.cell 2;have d3:=hD.cell 3;have d4:=hD.cell 4;have f0:=hD.frozen 0;have f1:=hD.frozen 1;have f2:=hD.frozen 2;have f3:=hD.frozen 3;have f4:=hD.frozen 4;simp only[qA,qZ,qS]at d0 d1 d2 d3 d4;have HMA:=qh hma;have HM:=qh hM;have HRR:=qh hRR;have HDD:=qh hD;clear hln hB hRR hM hma e0 hD;go_wp2_with fail
   have HRD:Hid (RAt wr.drew R s):=qh (HRR.out.upd ((Upd.refl Nowhere wr).drew) id fun _ h=>absurd h id)
   go_region_with ((go_at_call 126;refine(rerr_ok HRD.out).mono ?_;rintro e w4 ⟨rfl,rfl⟩))
   all_goals
    go_wp2_with fail
    have hF:=(((((HDD.out.set_ 0 (.int .i64 (x0:Nat))).set_ 1 (.int .i64 (x1:Nat))).set_ 2 (.int .i64 (x2:Nat))).set_ 3 (.int .i64 (x3:Nat))).set_ 4 (.int .i64 (x4:Nat))).drew;have e0:=hF.cell 0;have e1:=hF.cell 1;have e2:=hF.cell 2;have e3:=hF.cell 3;have e4:=hF.cell 4;simp only[qA,qZ,qS,qsA,qsS,qsZ]at e0 e1 e2 e3 e4
    have hu6:Upd (fun x=>w.heap.size≤x) w ((((((wr.setCell ⟨w.heap.size,0,none⟩ (.int .i64 (x0:Nat))).setCell ⟨w.heap.size,1,none⟩ (.int .i64 (x1:Nat))).setCell ⟨w.heap.size,2,none⟩ (.int .i64 (x2:Nat))).setCell ⟨w.heap.size,3,none⟩ (.int .i64 (x3:Nat))).setCell ⟨w.heap.size,4,none⟩ (.int .i64 (x4:Nat))).drew):=
     ((((((HU2.out.any.trans HUr.out fun k hk e=>by omega).setCell (p:=⟨w.heap.size,0,none⟩) (fun _=>qlr _) _).setCell (p:=⟨w.heap.size,1,none⟩) (fun _=>qlr _) _).setCell (p:=⟨w.heap.size,2,none⟩) (fun _=>qlr _) _).setCell (p:=⟨w.heap.size,3,none⟩) (fun _=>qlr _) _).setCell (p:=⟨w.heap.size,4,none⟩) (fun _=>qlr _) _).drew
    refine bodyPost_ret (v:= .tuple #[.agg #[.int .i64 (x0:Nat),.int .i64 (x1:Nat),.int .i64 (x2:Nat),.int .i64 (x3:Nat),.int .i64 (x4:Nat)],.bool (s.2 == 0)]) (by simp[results,Tryz.results107,go_sem,Act.put,e0,e1,e2,e3,e4]) rfl ⟨?_,?_⟩
    ·rw[HM.out];simp only[HMA.out]
    ·exact hu6.mono fun k hk h=>absurd h (by omega)
  ·have hln:=HLN.out;have hB:=HBr.out;have HN:numsR 1 (pl,0)=((numsR 0 (pl,0)).1++[(numR 1099511627776 (numsR 0 (pl,0)).2).1],(numR 1099511627776 (numsR 0 (pl,0)).2).2):=rfl;have HNN:=qh HN;have hRR:=HRr.out;have hLF:=HLF.out;generalize numsR 0 (pl,0)=T at hln hB HN hRR hLF;obtain⟨l,s⟩:=T;simp only at hln hB HN hRR hLF
   obtain rfl:l=[]:=by cases l with
    | nil=>rfl
    | cons a t=>simp at hln
   have e0:arrN []=#[.int .i64 0,.int .i64 0,.int .i64 0,.int .i64 0,.int .i64 0]:=rfl;rw[e0]at hB;have c0:=hB.cell 0;have f0:=hB.frozen 0;simp only[qA,qZ]at c0;have hix:=ix5_0;have HB:=qh hB;have HRR:=qh hRR;have HN2:=qh HN;have HLF2:=qh hLF;clear hln hB HN hRR e0 hLF;go_wp2_with fail
   refine(rnum_ok HRR.out (by have:=HLF2.out;have:=HL.out;omega) 1099511627776 (by omega)).mono ?_
   rintro e w4 ⟨rfl,hR4,hU4⟩;have hB4:=HB.out.upd hU4 fun e=>hne e.symm
   have d0:=hB4.cell 0;have g0:=hB4.frozen 0;simp only[qA,qZ]at d0;have HB4:=qh hB4;have HR4:=qh hR4;have HU4:=qh hU4;clear hB4 hR4 hU4;go_wp2_with fail
   go_roundw
   case rel=>
    refine⟨1,by go_num,by omega,?_,?_,(HUr.out.trans HU4.out fun x _ e=> .inl e).setCell (fun _=> .inr rfl) _⟩
    ·rw[HN2.out];exact HR4.out.upd (Upd.one w4 (w.heap.size+1) 0 _) hne (noU8_blk HB4.out (by decide))
    ·rw[HN2.out];exact HB4.out.set_ 0 _
   case measure=>simp[intOf]
  ·have hln:=HLN.out;have hB:=HBr.out;have HN:numsR 2 (pl,0)=((numsR 1 (pl,0)).1++[(numR 1099511627776 (numsR 1 (pl,0)).2).1],(numR 1099511627776 (numsR 1 (pl,0)).2).2):=rfl;have HNN:=qh HN;have hRR:=HRr.out;have hLF:=HLF.out;generalize numsR 1 (pl,0)=T at hln hB HN hRR hLF;obtain⟨l,s⟩:=T;simp only at hln hB HN hRR hLF
   obtain⟨x0,l,rfl⟩:∃a t,l=a::t:=by cases l with
    | nil=>simp at hln
    | cons a t=>exact⟨a,t,rfl⟩
   obtain rfl:l=[]:=by cases l with
    | nil=>rfl
    | cons a t=>simp at hln
   have e0:arrN [x0]=#[.int .i64 (x0:Nat),.int .i64 0,.int .i64 0,.int .i64 0,.int .i64 0]:=rfl;rw[e0]at hB;have c1:=hB.cell 1;have f1:=hB.frozen 1;simp only[qA,qZ,qS]at c1;have hix:=ix5_1;have HB:=qh hB;have HRR:=qh hRR;have HN2:=qh HN;have HLF2:=qh hLF;clear hln hB HN hRR e0 hLF;go_wp2_with fail
   refine(rnum_ok HRR.out (by have:=HLF2.out;have:=HL.out;omega) 1099511627776 (by omega)).mono ?_
   rintro e w4 ⟨rfl,hR4,hU4⟩;have hB4:=HB.out.upd hU4 fun e=>hne e.symm
   have d1:=hB4.cell 1;have g1:=hB4.frozen 1;simp only[qA,qZ,qS]at d1;have HB4:=qh hB4;have HR4:=qh hR4;have HU4:=qh hU4;clear hB4 hR4 hU4;go_wp2_with fail
   go_roundw
   case rel=>
    refine⟨2,by go_num,by omega,?_,?_,(HUr.out.trans HU4.out fun x _ e=> .inl e).setCell (fun _=> .inr rfl) _⟩
    ·rw[HN2.out];exact HR4.out.upd (Upd.one w4 (w.heap.size+1) 1 _) hne (noU8_blk HB4.out (by decide))
    ·rw[HN2.out];exact HB4.out.set_ 1 _
   case measure=>simp[intOf]
  ·have hln:=HLN.out;have hB:=HBr.out;have HN:numsR 3 (pl,0)=((numsR 2 (pl,0)).1++[(numR 1099511627776 (numsR 2 (pl,0)).2).1],(numR 1099511627776 (numsR 2 (pl,0)).2).2):=rfl;have HNN:=qh HN;have hRR:=HRr.out;have hLF:=HLF.out;generalize numsR 2 (pl,0)=T at hln hB HN hRR hLF;obtain⟨l,s⟩:=T;simp only at hln hB HN hRR hLF
   obtain⟨x0,l,rfl⟩:∃a t,l=a::t:=by cases l with
    | nil=>simp at hln
    | cons a t=>exact⟨a,t,rfl⟩
   obtain⟨x1,l,rfl⟩:∃a t,l=a::t:=by cases l with
    | nil=>simp at hln
    | cons a t=>exact⟨a,t,rfl⟩
   obtain rfl:l=[]:=by cases l with
    | nil=>rfl
    | cons a t=>simp at hln
   have e0:arrN [x0,x1]=#[.int .i64 (x0:Nat),.int .i64 (x1:Nat),.int .i64 0,.int .i64 0,.int .i64 0]:=rfl;rw[e0]at hB;have c2:=hB.cell 2;have f2:=hB.frozen 2;simp only[qA,qZ,qS]at c2;have hix:=ix5_2;have HB:=qh hB;have HRR:=qh hRR;have HN2:=qh HN;have HLF2:=qh hLF;clear hln hB HN hRR e0 hLF;go_wp2_with fail
   refine(rnum_ok HRR.out (by have:=HLF2.out;have:=HL.out;omega) 1099511627776 (by omega)).mono ?_
   rintro e w4 ⟨rfl,hR4,hU4⟩;have hB4:=HB.out.upd hU4 fun e=>hne e.symm
   have d2:=hB4.cell 2;have g2:=hB4.frozen 2;simp only[qA,qZ,qS]at d2;have HB4:=qh hB4;have HR4:=qh hR4;have HU4:=qh hU4;clear hB4 hR4 hU4;go_wp2_with fail
   go_roundw
   case rel=>
    refine⟨3,by go_num,by omega,?_,?_,(HUr.out.trans HU4.out fun x _ e=> .inl e).setCell (fun _=> .inr rfl) _⟩
    ·rw[HN2.out];exact HR4.out.upd (Upd.one w4 (w.heap.size+1) 2 _) hne (noU8_blk HB4.out (by decide))
    ·rw[HN2.out];exact HB4.out.set_ 2 _
   case measure=>simp[intOf]
  ·have hln:=HLN.out;have hB:=HBr.out;have HN:numsR 4 (pl,0)=((numsR 3 (pl,0)).1++[(numR 1099511627776 (numsR 3 (pl,0)).2).1],(numR 1099511627776 (numsR 3 (pl,0)).2).2):=rfl;have HNN:=qh HN;have hRR:=HRr.out;have hLF:=HLF.out;generalize numsR 3 (pl,0)=T at hln hB HN hRR hLF;obtain⟨l,s⟩:=T;simp only at hln hB HN hRR hLF
   obtain⟨x0,l,rfl⟩:∃a t,l=a::t:=by cases l with
    | nil=>simp at hln
    | cons a t=>exact⟨a,t,rfl⟩
   obtain⟨x1,l,rfl⟩:∃a t,l=a::t:=by cases l with
    | nil=>simp at hln
    | cons a t=>exact⟨a,t,rfl⟩
   obtain⟨x2,l,rfl⟩:∃a t,l=a::t:=by cases l with
    | nil=>simp at hln
    | cons a t=>exact⟨a,t,rfl⟩
   obtain rfl:l=[]:=by cases l with
    | nil=>rfl
    | cons a t=>simp at hln
   have e0:arrN [x0,x1,x2]=#[.int .i64 (x0:Nat),.int .i64 (x1:Nat),.int .i64 (x2:Nat),.int .i64 0,.int .i64 0]:=rfl;rw[e0]at hB;have c3:=hB.cell 3;have f3:=hB.frozen 3;simp only[qA,qZ,qS]at c3;have hix:=ix5_3;have HB:=qh hB;have HRR:=qh hRR;have HN2:=qh HN;have HLF2:=qh hLF;clear hln hB HN hRR e0 hLF;go_wp2_with fail
   refine(rnum_ok HRR.out (by have:=HLF2.out;have:=HL.out;omega) 1099511627776 (by omega)).mono ?_
   rintro e w4 ⟨rfl,hR4,hU4⟩;have hB4:=HB.out.upd hU4 fun e=>hne e.symm
   have d3:=hB4.cell 3;have g3:=hB4.frozen 3;simp only[qA,qZ,qS]at d3;have HB4:=qh hB4;have HR4:=qh hR4;have HU4:=qh hU4;clear hB4 hR4 hU4;go_wp2_with fail
   go_roundw
   case rel=>
    refine⟨4,by go_num,by omega,?_,?_,(HUr.out.trans HU4.out fun x _ e=> .inl e).setCell (fun _=> .inr rfl) _⟩
    ·rw[HN2.out];exact HR4.out.upd (Upd.one w4 (w.heap.size+1) 3 _) hne (noU8_blk HB4.out (by decide))
    ·rw[HN2.out];exact HB4.out.set_ 3 _
   case measure=>simp[intOf]
  ·have hln:=HLN.out;have hB:=HBr.out;have HN:numsR 5 (pl,0)=((numsR 4 (pl,0)).1++[(numR 1099511627776 (numsR 4 (pl,0)).2).1],(numR 1099511627776 (numsR 4 (pl,0)).2).2):=rfl;have HNN:=qh HN;have hRR:=HRr.out;have hLF:=HLF.out;generalize numsR 4 (pl,0)=T at hln hB HN hRR hLF;obtain⟨l,s⟩:=T;simp only at hln hB HN hRR hLF
   obtain⟨x0,l,rfl⟩:∃a t,l=a::t:=by cases l with
    | nil=>simp at hln
    | cons a t=>exact⟨a,t,rfl⟩
   obtain⟨x1,l,rfl⟩:∃a t,l=a::t:=by cases l with
    | nil=>simp at hln
    | cons a t=>exact⟨a,t,rfl⟩
   obtain⟨x2,l,rfl⟩:∃a t,l=a::t:=by cases l with
    | nil=>simp at hln
    | cons a t=>exact⟨a,t,rfl⟩
   obtain⟨x3,l,rfl⟩:∃a t,l=a::t:=by cases l with
    | nil=>simp at hln
    | cons a t=>exact⟨a,t,rfl⟩
   obtain rfl:l=[]:=by cases l with
    | nil=>rfl
    | cons a t=>simp at hln
   have e0:arrN [x0,x1,x2,x3]=#[.int .i64 (x0:Nat),.int .i64 (x1:Nat),.int .i64 (x2:Nat),.int .i64 (x3:Nat),.int .i64 0]:=rfl;rw[e0]at hB;have c4:=hB.cell 4;have f4:=hB.frozen 4;simp only[qA,qZ,qS]at c4;have hix:=ix5_4;have HB:=qh hB;have HRR:=qh hRR;have HN2:=qh HN;have HLF2:=qh hLF;clear hln hB HN hRR e0 hLF;go_wp2_with fail
   refine(rnum_ok HRR.out (by have:=HLF2.out;have:=HL.out;omega) 1099511627776 (by omega)).mono ?_
   rintro e w4 ⟨rfl,hR4,hU4⟩;have hB4:=HB.out.upd hU4 fun e=>hne e.symm
   have d4:=hB4.cell 4;have g4:=hB4.frozen 4;simp only[qA,qZ,qS]at d4;have HB4:=qh hB4;have HR4:=qh hR4;have HU4:=qh hU4;clear hB4 hR4 hU4;go_wp2_with fail
   go_roundw
   case rel=>
    refine⟨5,by go_num,by omega,?_,?_,(HUr.out.trans HU4.out fun x _ e=> .inl e).setCell (fun _=> .inr rfl) _⟩
    ·rw[HN2.out];exact HR4.out.upd (Upd.one w4 (w.heap.size+1) 4 _) hne (noU8_blk HB4.out (by decide))
    ·rw[HN2.out];exact HB4.out.set_ 4 _
   case measure=>simp[intOf]
theorem readM_gen(pl:Bs):∃g:Nat,(readM pl).1.gen=(g:Int)∧g≤1099511627776:=by
 have h1:readM pl=(mastOf (numsR 5 (pl,0)).1,(numsR 5 (pl,0)).2.2 == 0):=rfl;have h2:=numsR_len 5 (pl,0)
 have hb:∀k,∀x∈(numsR k (pl,0)).1,x≤1099511627776:=by
  intro k
  induction k with
  | zero=>intro x hx;simp[numsR]at hx
  | succ k ih=>
    intro x hx;simp only[numsR,qma,List.mem_singleton]at hx
    rcases hx with hx | rfl
    ·exact ih x hx
    ·unfold numR;split
     ·exact Nat.zero_le _
     ·rename_i h
      have:=numberB_ok (b:=(numsR k (pl,0)).2.1) (most:=1099511627776) (n:=(numberB (numsR k (pl,0)).2.1 1099511627776).1) (k:=(numberB (numsR k (pl,0)).2.1 1099511627776).2.1) (e:=(numberB (numsR k (pl,0)).2.1 1099511627776).2.2) rfl;generalize numberB (numsR k (pl,0)).2.1 1099511627776=T at this;obtain⟨n,j,e⟩:=T;simp only at this ⊢;split
      ·exact Nat.zero_le _
      ·exact this.1
 have h3:=hb 5;rw[h1];generalize (numsR 5 (pl,0)).1=l at h2 h3
 match l,h2,h3 with
 | [a,b,c,d,e],_,h3=>exact⟨a,rfl,h3 a (by simp)⟩
theorem look_ok{w:World}{p:DkP}{S:DiskS}(h:DiskAt w p S)(hd:S.down=false)(hsz:2≤S.size)(hl:∀n:Int,(S.read n).length=256){Bd Bb:Nat}{best:MastS}(h1:Blk w Bd 25 #[.pointer (some ⟨p.d,0,none⟩)])(h2:Blk w Bb 115 best.arr)(n:Nat)(hn:n<2):
 Calls Tryz.prog 106 #[.int .i64 (n:Int),.pointer (some ⟨Bd,0,none⟩),.pointer (some ⟨Bb,0,none⟩)] w fun e w'=>e= .returned (.int .i64 0)∧Blk w' Bb 115 (lookM S n best).arr∧Upd (fun k=>k=Bb) w w':=by
 have cd:=h1.cell 0;simp only[qA,qZ]at cd;have H:=qh h;have H2:=qh h2;have HSZ:=qh hsz;have HL:=qh hl;have HN:=qh hn;clear h h1 h2 hsz hl hn
 cases hg:S.get n with
 | none=>
   have HG:=qh (get_torn H.out n (by have:=HSZ.out;have:=HN.out;omega) hd (HL.out _) hg)
   have hE:lookM S n best=best:=by unfold lookM;rw[hg]
   rw[hE];clear hE hg;go_enter Tryz.func106,Tryz.ntmps106
   go_wp2_with fail
   refine HG.out.mono ?_;rintro e w1 ⟨rfl,hU⟩;have HU:=qh hU;clear hU;go_wp2_with fail
   go_ret;exact⟨rfl,H2.out.upd HU.out id,HU.out.any⟩
 | some pl=>
   have HG:=qh (get_ok H.out n (by have:=HSZ.out;have:=HN.out;omega) hd (HL.out _) hg)
   have hpl:pl.length=254:=by
    have h0:=HL.out (n:Int);have hg':openS (S.read n)=some pl:=hg;unfold openS at hg';split at hg'
    ·have:=Option.some.inj hg';rw[←this];simp;omega
    ·cases hg'
   have HPL:=qh hpl;have hE:lookM S n best=if (readM pl).2∧best.gen<(readM pl).1.gen∧(readM pl).1.gen % 2=n then (readM pl).1 else best:=by unfold lookM;rw[hg]
   obtain⟨g,hgg,hgl⟩:=readM_gen pl;have hR:∀(w:World) (v:Value),BytesE w v pl→Calls Tryz.prog 107 #[v] w fun e w'=>e= .returned (.tuple #[.agg (readM pl).1.arr,.bool (readM pl).2])∧Upd Nowhere w w':=fun w v h=>mread_ok h (by omega)
   generalize readM pl=T at hR hgg hE;obtain⟨⟨gen,inc,first,lsn,check⟩,b⟩:=T;simp only at hgg hR hE;subst hgg;have hR':∀(w:World) (v:Value),BytesE w v pl→Calls Tryz.prog 107 #[v] w fun e w'=>e= .returned (.tuple #[.agg #[.int .i64 (g:Int),.int .i64 inc,.int .i64 first,.int .i64 lsn,.int .i64 check],.bool b])∧Upd Nowhere w w':=hR
   have HR:=qh hR';have HE:=qh hE;clear hE hg hpl hR hR';go_enter Tryz.func106,Tryz.ntmps106
   go_wp2_with fail
   refine HG.out.mono ?_;rintro e w1 ⟨A,c,rfl,hO,hU⟩;have HO:Hid (BytesE w1 (.slice A 254 c) pl):=qh hO.els;have HU:=qh hU;clear hO hU;go_wp2_with fail
   refine(HR.out _ _ HO.out).mono ?_;rintro e w2 ⟨rfl,hU2⟩;have HU2:=qh (HU.out.same hU2);clear hU2;have hB2:=H2.out.upd HU2.out id;have b0:=hB2.cell 0;have b1:=hB2.cell 1;have b2:=hB2.cell 2;have b3:=hB2.cell 3;have b4:=hB2.cell 4;have q0:=hB2.frozen 0;have q1:=hB2.frozen 1;have q2:=hB2.frozen 2;have q3:=hB2.frozen 3;have q4:=hB2.frozen 4;have HB2:=qh hB2;have hlt:=hB2.lt;unfold MastS.arr at b0 b1 b2 b3 b4;simp only[qA,qZ,qS]at b0 b1 b2 b3 b4;have hand:=i64_and1 g (by omega)
   have hn2:(n:Int)=0∨(n:Int)=1:=by have:=HN.out;omega
   clear hB2;by_cases hb:b=true
   ·subst hb;by_cases hlt2:best.gen<(g:Int)
    ·by_cases hmod:(g:Int) % 2=(n:Int)
     ·have hmod':(((g % 2:Nat):Int) == (n:Int))=true:=by simpa using(by omega:((g % 2:Nat):Int)=(n:Int))
      have HMOD:=qh hmod;clear hmod hn2;go_wp2_with fail
      go_ret;have e:lookM S n best=⟨(g:Int),inc,first,lsn,check⟩:=by rw[HE.out];simp[hlt2,HMOD.out]
      rw[e];have hu5:=((((((Upd.refl (fun k=>k=Bb) w2).setCell (p:=⟨Bb,0,none⟩) (fun _=>rfl) (.int .i64 (g:Int))).setCell (p:=⟨Bb,1,none⟩) (fun _=>rfl) (.int .i64 inc)).setCell (p:=⟨Bb,2,none⟩) (fun _=>rfl) (.int .i64 first)).setCell (p:=⟨Bb,3,none⟩) (fun _=>rfl) (.int .i64 lsn)).setCell (p:=⟨Bb,4,none⟩) (fun _=>rfl) (.int .i64 check)).alloc (.cells #[.int .i64 (g:Int),.int .i64 inc,.int .i64 first,.int .i64 lsn,.int .i64 check] 115)
      have hb5:=(((((HB2.out.set_ 0 (.int .i64 (g:Int))).set_ 1 (.int .i64 inc)).set_ 2 (.int .i64 first)).set_ 3 (.int .i64 lsn)).set_ 4 (.int .i64 check)).alloc (.cells #[.int .i64 (g:Int),.int .i64 inc,.int .i64 first,.int .i64 lsn,.int .i64 check] 115);exact⟨rfl,hb5,HU2.out.any.same hu5⟩
     ·have hmod':(((g % 2:Nat):Int) == (n:Int))=false:=by simpa using(by omega:¬((g % 2:Nat):Int)=(n:Int))
      have HMOD:=qh hmod;clear hmod hn2;go_wp2_with fail
      go_ret;have e:lookM S n best=best:=by rw[HE.out];simp[HMOD.out]
      rw[e];exact⟨rfl,HB2.out.alloc _,HU2.out.any.alloc _⟩
    ·clear hn2;have HLT:=qh hlt2;go_wp2_with fail
     go_ret;have e:lookM S n best=best:=by rw[HE.out,if_neg (fun h=>by have:=HLT.out;have:=h.2.1;omega)]
     rw[e];exact⟨rfl,HB2.out.alloc _,HU2.out.any.alloc _⟩
   ·have hb':b=false:=by simpa using hb
    subst hb';clear hn2;go_wp2_with fail
    go_ret;have e:lookM S n best=best:=by rw[HE.out];simp
    rw[e];exact⟨rfl,HB2.out.alloc _,HU2.out.any.alloc _⟩
theorem cf_look(args:Array Value)(w:World):(callFunc 106 args).run Tryz.prog w= .ok (.enter 106 args) w:=by kernel_rfl
theorem mload_ok{w:World}{p:DkP}{S:DiskS}(h:DiskAt w p S)(hd:S.down=false)(hsz:2≤S.size)(hl:∀n:Int,(S.read n).length=256)(hg:S.load.gen≠0):
 Calls Tryz.prog 56 #[.pointer (some ⟨p.d,0,none⟩)] w fun e w'=>e= .returned (.tuple #[.agg S.load.arr,.int .i64 0])∧Upd Nowhere w w':=by
 have hcf:=cf_look;have H:=qh h;have HSZ:=qh hsz;have HL:=qh hl;have HG:=qh hg;clear h hsz hl hg;have hz1:(w.alloc (.cells #[.pointer (some ⟨p.d,0,none⟩)] 25)).heap.size=w.heap.size+1:=by simp
 have hz2:((w.alloc (.cells #[.pointer (some ⟨p.d,0,none⟩)] 25)).alloc (.cells #[.int .i64 0,.int .i64 0,.int .i64 0,.int .i64 0,.int .i64 0] 115)).heap.size=w.heap.size+1+1:=by simp
 have hB1:=((Blk.new w 25 #[.pointer (some ⟨p.d,0,none⟩)]).alloc (.cells #[.int .i64 0,.int .i64 0,.int .i64 0,.int .i64 0,.int .i64 0] 115)).alloc (.cells #[.int .i64 0,.int .i64 0,.int .i64 0,.int .i64 0,.int .i64 0] 115);have hB2:=(Blk.new' (w.alloc (.cells #[.pointer (some ⟨p.d,0,none⟩)] 25)) 115 #[.int .i64 0,.int .i64 0,.int .i64 0,.int .i64 0,.int .i64 0] hz1.symm).alloc (.cells #[.int .i64 0,.int .i64 0,.int .i64 0,.int .i64 0,.int .i64 0] 115);have hB3:=Blk.new' ((w.alloc (.cells #[.pointer (some ⟨p.d,0,none⟩)] 25)).alloc (.cells #[.int .i64 0,.int .i64 0,.int .i64 0,.int .i64 0,.int .i64 0] 115)) 115 #[.int .i64 0,.int .i64 0,.int .i64 0,.int .i64 0,.int .i64 0] hz2.symm;have hU0:=(((Upd.refl Nowhere w).alloc (.cells #[.pointer (some ⟨p.d,0,none⟩)] 25)).alloc (.cells #[.int .i64 0,.int .i64 0,.int .i64 0,.int .i64 0,.int .i64 0] 115)).alloc (.cells #[.int .i64 0,.int .i64 0,.int .i64 0,.int .i64 0,.int .i64 0] 115);have hz3:(((w.alloc (.cells #[.pointer (some ⟨p.d,0,none⟩)] 25)).alloc (.cells #[.int .i64 0,.int .i64 0,.int .i64 0,.int .i64 0,.int .i64 0] 115)).alloc (.cells #[.int .i64 0,.int .i64 0,.int .i64 0,.int .i64 0,.int .i64 0] 115)).heap.size=w.heap.size+3:=by simp
 have HB1:=qh hB1;have HB2:=qh hB2;have HB3:=qh hB3;have HU0:=qh hU0;have HZ3:=qh hz3;clear hz1 hz2 hz3 hB1 hB2 hB3 hU0;go_enter Tryz.func56,Tryz.ntmps56
 go_wp2_with fail
 generalize ((w.alloc (.cells #[.pointer (some ⟨p.d,0,none⟩)] 25)).alloc (.cells #[.int .i64 0,.int .i64 0,.int .i64 0,.int .i64 0,.int .i64 0] 115)).alloc (.cells #[.int .i64 0,.int .i64 0,.int .i64 0,.int .i64 0,.int .i64 0] 115)=w3 at*;have HD3:=qh (H.out.up HU0.out);have HFN:Hid (¬p.foot (w.heap.size+1+1)):=qh fun h=>by have:=H.out.lt _ h;omega
 go_loopw [9] (fun s9 wr=>∃k:Nat,s9= .int .i64 (k:Int)∧k≤2∧Upd (fun x=>x=w.heap.size+1+1) w3 wr∧
  ((k=0∧Blk wr (w.heap.size+1+1) 115 (MastS.arr ⟨0,0,0,0,0⟩))∨(k=1∧Blk wr (w.heap.size+1+1) 115 (lookM S 0 ⟨0,0,0,0,0⟩).arr)∨(k=2∧Blk wr (w.heap.size+1+1) 115 S.load.arr))) (fun s9 _=>2 - (intOf s9).toNat)
 case atStart=>exact⟨0,rfl,by omega,Upd.refl _ _,.inl ⟨rfl,HB3.out⟩⟩
 case round=>
  obtain⟨k,rfl,hk,hu,⟨rfl,hB⟩ | ⟨rfl,hB⟩ | ⟨rfl,hB⟩⟩:=hrel
  ·have HU:=qh hu;have HL0:=qh (look_ok (HD3.out.upd hu fun k hf e=>HFN.out (e▸hf)) hd HSZ.out HL.out (HB1.out.upd hu (by omega)) hB 0 (by omega))
   clear hu hB;go_wp2_with fail
   refine HL0.out.mono ?_;rintro e w4 ⟨rfl,hB4,hU4⟩;have HB4:=qh hB4;have HU4:=qh hU4;clear hB4 hU4;go_wp2_with fail
   go_roundw
   case rel=>exact⟨1,by go_num,by omega,HU.out.same HU4.out,.inr (.inl ⟨rfl,HB4.out⟩)⟩
   case measure=>simp[intOf]
  ·have HU:=qh hu;have HL0:=qh (look_ok (HD3.out.upd hu fun k hf e=>HFN.out (e▸hf)) hd HSZ.out HL.out (HB1.out.upd hu (by omega)) hB 1 (by omega))
   clear hu hB;go_wp2_with fail
   refine HL0.out.mono ?_;rintro e w4 ⟨rfl,hB4,hU4⟩;have HB4:=qh hB4;have HU4:=qh hU4;clear hB4 hU4;go_wp2_with fail
   go_roundw
   case rel=>exact⟨2,by go_num,by omega,HU.out.same HU4.out,.inr (.inr ⟨rfl,HB4.out⟩)⟩
   case measure=>simp[intOf]
  ·have HU:=qh hu;have hR:=HB2.out.upd hu (by omega)
   have hg:=HG.out;have hg':(S.load.gen == 0)=false:=by simpa using hg
   obtain⟨m,hm⟩:∃m,S.load=m:=⟨_,rfl⟩;rw[hm]at hB hg hg';have HM:=qh hm;clear hm;obtain⟨gen,inc,first,lsn,check⟩:=m;unfold MastS.arr at hB;simp only at hB hg';have c0:=hB.cell 0;have d0:=hR.cell 0;have f0:=hR.frozen 0;have c1:=hB.cell 1;have d1:=hR.cell 1;have f1:=hR.frozen 1;have c2:=hB.cell 2;have d2:=hR.cell 2;have f2:=hR.frozen 2;have c3:=hB.cell 3;have d3:=hR.cell 3;have f3:=hR.frozen 3;have c4:=hB.cell 4;have d4:=hR.cell 4;have f4:=hR.frozen 4;simp only[qA,qZ,qS]at c0 d0 c1 d1 c2 d2 c3 d3 c4 d4;have HR:=qh hR;clear hu hR hB hg HG;go_wp2_with fail
   have hF:=((((HR.out.set_ 0 (.int .i64 gen)).set_ 1 (.int .i64 inc)).set_ 2 (.int .i64 first)).set_ 3 (.int .i64 lsn)).set_ 4 (.int .i64 check);have e0:=hF.cell 0;have e1:=hF.cell 1;have e2:=hF.cell 2;have e3:=hF.cell 3;have e4:=hF.cell 4;simp only[qA,qZ,qS,qsA,qsS,qsZ]at e0 e1 e2 e3 e4;have hu6:=(((((HU0.out.any.trans HU.out (F:=fun x=>w.heap.size≤x) fun k hk e=>by omega).setCell (p:=⟨w.heap.size+1,0,none⟩) (fun _=>Nat.le_succ _) (.int .i64 gen)).setCell (p:=⟨w.heap.size+1,1,none⟩) (fun _=>Nat.le_succ _) (.int .i64 inc)).setCell (p:=⟨w.heap.size+1,2,none⟩) (fun _=>Nat.le_succ _) (.int .i64 first)).setCell (p:=⟨w.heap.size+1,3,none⟩) (fun _=>Nat.le_succ _) (.int .i64 lsn)).setCell (p:=⟨w.heap.size+1,4,none⟩) (fun _=>Nat.le_succ _) (.int .i64 check)
   exact bodyPost_ret (v:= .tuple #[.agg #[.int .i64 gen,.int .i64 inc,.int .i64 first,.int .i64 lsn,.int .i64 check],.int .i64 0]) (by simp[results,Tryz.results56,go_sem,e0,e1,e2,e3,e4]) rfl ⟨by rw[HM.out];rfl,hu6.mono fun k hk h=>absurd h (by omega)⟩
end Go.Proofs.YtdfccegeihfdpaaGreatDoor
