/-
  Contracts of layer 12: Frames: the frames gathered.
-/
import Derived.Test.YtdfccegeihfdpaaGreatDoorAPgO
set_option maxRecDepth 100000
set_option maxHeartbeats 4000000
namespace Go.Proofs.YtdfccegeihfdpaaGreatDoor
open Go Go.RowKit
abbrev FrO:=FrP×(Option Addr×Nat)
def frO(o:FrO):List Value:=[.int .i64 (o.1.no:Nat),.int .i64 (o.1.pins:Nat),.int .i64 (o.1.rc:Nat),.int .i64 (o.1.stamp:Nat),.int .i64 (o.1.lsn:Nat),.slice o.2.1 o.1.cells.length o.2.2]
theorem frO_len(o:FrO):(frO o).length=6:=rfl
theorem frame_row:RowK Tryz.prog 80 83 frO 6:=
 ⟨Tryz.underlying80,⟨.agg #[.int .i64 0,.int .i64 0,.int .i64 0,.int .i64 0,.int .i64 0,.slice none 0 0],64,by kernel_rfl,rfl,by decide⟩,fun _=>rfl,fun a u h=>by
  simp only[frO,qmc,List.not_mem_nil,or_false]at h
  rcases h with rfl | rfl | rfl | rfl | rfl | rfl<;>rfl,by decide⟩
abbrev OwnF:=OwnR 83 frO 6
def slO(o:FrO):Value:= .slice o.2.1 o.1.cells.length o.2.2
structure Gath(L:List FrB)(left:Int→Prop)(os:List FrO):Prop where
 nd:(os.map fun o=>o.1.no).Nodup
 from_:∀o∈os,∃q∈L,q.1=o.1∧¬left (q.1.no:Int)
 all:∀q∈L,¬left (q.1.no:Int)→∃o∈os,o.1=q.1
theorem Gath.start(L:List FrB)(left:Int→Prop)(h:∀q∈L,left (q.1.no:Int)):Gath L left []:=⟨List.nodup_nil,fun _ h=>(by cases h),fun q hq hn=>absurd (h q hq) hn⟩
theorem Gath.step{L:List FrB}{left:Int→Prop}{os:List FrO}(h:Gath L left os)(hn:(L.map (·.1.no)).Nodup){q:FrB}(hq:q∈L)(hl:left (q.1.no:Int))(s:Option Addr×Nat):Gath L (fun x=>left x∧x≠(q.1.no:Int)) (os++[(q.1,s)]):=by
 refine⟨?_,fun o ho=> ?_,fun r hr hnl=> ?_⟩
 ·rw[List.map_append,List.nodup_append];refine⟨h.nd,by simp,?_⟩
  intro a ha b hb;simp only[List.map_cons,List.map_nil,List.mem_singleton]at hb;obtain⟨o,ho,rfl⟩:=List.mem_map.1 ha;obtain⟨r,hr,e,hnl⟩:=h.from_ o ho;intro e2;rw[←e,hb]at e2;rw[e2]at hnl;exact hnl hl
 ·rcases qma.1 ho with ho | ho
  ·obtain⟨r,hr,e,hnl⟩:=h.from_ o ho;exact⟨r,hr,e,fun h2=>hnl h2.1⟩
  ·obtain rfl:=List.mem_singleton.1 ho;exact⟨q,hq,rfl,fun h2=>h2.2 rfl⟩
 ·by_cases e:(r.1.no:Int)=(q.1.no:Int)
  ·obtain rfl:r=q:=nos_inj hn hr hq (by omega)
   exact⟨(r.1,s),qma.2 (.inr (List.mem_singleton.2 rfl)),rfl⟩
  ·obtain⟨o,ho,e2⟩:=h.all r hr fun h2=>hnl ⟨h2,e⟩
   exact⟨o,qma.2 (.inl ho),e2⟩
theorem nodup_sub_len:∀(l m:List Nat),l.Nodup→l ⊆ m→l.length≤m.length
 | [],_,_,_=>Nat.zero_le _
 | a::l,m,hn,hs=>by
   obtain⟨h1,h2⟩:=List.nodup_cons.1 hn;have ha:a∈m:=hs (List.mem_cons_self ..);have h3:=nodup_sub_len l (m.erase a) h2 fun b hb=>(List.mem_erase_of_ne (by rintro rfl;exact h1 hb)).2 (hs (List.mem_cons_of_mem _ hb))
   have h4:=List.length_erase_of_mem ha;have h5:=List.length_pos_of_mem ha;rw[List.length_cons];omega
theorem Gath.len_le{L:List FrB}{left:Int→Prop}{os:List FrO}(h:Gath L left os)(_hn:(L.map (·.1.no)).Nodup):os.length≤L.length:=by
 have h1:(os.map fun o=>o.1.no) ⊆ L.map (·.1.no):=fun n hn=>by
  obtain⟨o,ho,rfl⟩:=List.mem_map.1 hn;obtain⟨q,hq,e,_⟩:=h.from_ o ho;exact List.mem_map.2 ⟨q,hq,by rw[e]⟩
 have h2:=nodup_sub_len _ _ h.nd h1
 rwa [qlm,qlm]at h2
theorem oneE{α:Type}{cells:α→List Value}{sz:Nat}{TE:TypeId}(hlen:∀a,(cells a).length=sz){w:World}{vb:Nat}{x:α}(hx:Blk w vb TE (cells x).toArray):Els sz cells w (.slice (some ⟨vb,0,none⟩) 1 1) [x]:=by
 refine⟨_,1,rfl,qlr _,by simp[hlen],fun _=>⟨_,rfl,hx.lt,rfl,fun j u hj=> ?_⟩⟩
 rw[Addr.add_lit,Nat.zero_add,hx.cell];rw[List.flatMap_cons,List.flatMap_nil,List.append_nil]at hj;rw[qA];exact hj
theorem noC_own{TE:TypeId}{α:Type}{cells:α→List Value}{sz B:Nat}{w:World}{v:Value}{L:List α}(h:OwnR TE cells sz B w v L)(ht:TE≠155):NoC (fun k=>v.ownBlock=some k) w:=by
 intro k hk ⟨cs,fz,hc⟩;obtain⟨cs',hc'⟩:=h.is_cells hk;rw[hc]at hc';injection hc' with hc'
 injection hc' with _ e _
 exact ht e.symm
section
variable {w:World} {bz P l:Nat} {p:DkP} {S:LogS} {T:PoS}
theorem frames_walk(h:PoolAt bz w P p l S T)(hT:PoB T){R:Ending→World→Prop}
 (hsort:∀(A:Option Addr) (c:Nat) (os:List FrO) (W:World),OwnF w.heap.size W (.slice A os.length c) os→Gath T.L (fun _=>False) os→(∀o∈os,CellsE W (slO o) o.1.cells)→Upd Nowhere w W→
   Calls Tryz.prog 92 #[.slice A os.length c,.func (.func 93) #[] #[]] W fun e w'=>e= .returned (.tuple #[])∧R (.returned (.slice A os.length c)) w'):
 Calls Tryz.prog 32 #[.pointer (some ⟨P,0,none⟩)] w R:=by
 have HH:=qh h;have HT:=qh hT;have HS:=qh hsort;have c6:=h.blk.cell 6;simp only[qA,qZ,qS]at c6;obtain⟨w2,cnt0,hrun,hR0,hU0,hz0⟩:=h.map.range Tryz.underlying137;have HRUN:=qh hrun;have HR0:=qh hR0;have HU0:=qh hU0;clear h hT hsort hrun hR0 hU0 hz0;go_enter Tryz.func32,Tryz.ntmps32
 go_wp2_with (at_range;refine wpList_range_run rfl _ _ rfl rfl HRUN.out ?_)
 clear c6;go_frame
 go_loopw [3] (fun s3 wr=>∃(left:Int→Prop) (cnt:Nat) (A:Option Addr) (c:Nat) (os:List FrO),RangeIs intK wr w.heap.size T.fm (frF T.L) left cnt∧s3= .slice A os.length c∧OwnF w.heap.size wr (.slice A os.length c) os∧Gath T.L left os∧(∀o∈os,CellsE wr (slO o) o.1.cells)∧Upd Nowhere w wr) (fun _ wr=>wr.rangeLeft T.fm w.heap.size)
 case atStart=>
  refine⟨_,cnt0,none,0,[],HR0.out,rfl,OwnR.nil _ _ _ _ _,Gath.start _ _ fun q hq=> ?_,fun o ho=>(by cases ho),HU0.out⟩
  unfold frF;rw[findF_of HH.out.nos hq];simp
 case round=>
  obtain⟨left,cnt,A,c,os,hR,rfl,hO,hG,hC,hu⟩:=hrel;have HR:=qh hR;have HO:=qh hO;have HG:=qh hG;have HC:=qh hC;have HU:=qh hu;clear hR hO hG hC hu;go_wp2_with (at_next;refine wpList_next_is keyI rfl _ rfl rfl HR.out ?_ ?_)
  ·intro h0 hno
   have HGF:Hid (Gath T.L (fun _=>False) os):=qh ⟨HG.out.nd,fun o ho=>by
    obtain⟨q,hq,e,_⟩:=HG.out.from_ o ho;exact⟨q,hq,e,id⟩,fun q hq _=>HG.out.all q hq (hno _)⟩
   clear hno;go_wp2_with fail
   refine(HS.out A c os _ HO.out HGF.out HC.out HU.out).mono ?_;rintro e w9 ⟨rfl,hr⟩;have HR9:=qh hr;clear hr;go_wp2_with fail
   exact HR9.out
  ·intro x vx wn cnt1 hfx hlx hR1 hlt hu1 hsz1 hen
   obtain⟨q,hq,rfl⟩:∃q,findF T.L x=some q∧ptrF q=vx:=by
    unfold frF at hfx
    cases hf:findF T.L x with
    | none=>rw[hf]at hfx;cases hfx
    | some q=>rw[hf]at hfx;exact⟨q,rfl,by injection hfx⟩
   obtain⟨hqm,hqn⟩:=findF_some hq;subst hqn;have HUN:=qh (HU.out.trans (F:=Nowhere) hu1 fun k hk e=>by omega)
   have HR1:=qh hR1;have HLT:=qh hlt;have HLX:=qh hlx;have HGL:Hid (os.length≤T.L.length):=qh (HG.out.len_le HH.out.nos);have HQM:=qh hqm;have hitr:=RangeIs.ne HR.out
   have hCn:∀{v:Value} {L:Cl},CellsE wr v L→CellsE wn v L:=fun hc=>hc.upd hu1 fun k e hk=>by
    subst e;obtain⟨cs,fz,hk⟩:=hk;obtain⟨_,_,_,_,_,_,_,_,_,hi,_⟩:=HR.out;rw[hk]at hi
    cases hi
   have hOn:OwnF w.heap.size wn (.slice A os.length c) os:=HO.out.upd hu1 fun k hk e=>by
    subst e;obtain⟨cs,hk⟩:=HO.out.is_cells hk;obtain⟨_,_,_,_,_,_,_,_,_,hi,_⟩:=HR.out;rw[hk]at hi
    cases hi
   have HON:=qh hOn;have HCN:Hid (∀o∈os,CellsE wn (slO o) o.1.cells):=qh fun o ho=>hCn (HC.out o ho)
   obtain⟨A1,c1,f0,f1,f2,f3,f4,f5,f6,fz,hce⟩:=((HH.out.up HUN.out).fr _ hqm).cells;have hbd:=HT.out.fr q hqm;unfold ptrF at hen;obtain⟨y,b⟩:=q;simp only at hen f0 f1 f2 f3 f4 f5 f6 hce hbd;have HCE:=qh hce;have HYL:Hid (y.cells.length≤4):=qh hbd.2.2.2.len;clear hfx hlx hR1 hlt hu1 hsz1 hq f6 fz hce hqm hitr hCn hOn hbd;have hqa:=Blk.new wn 83 #[.int .i64 (y.no:Nat),.int .i64 (y.pins:Nat),.int .i64 (y.rc:Nat),.int .i64 (y.stamp:Nat),.int .i64 (y.lsn:Nat),.slice A1 y.cells.length c1];have hua:=(Upd.refl Nowhere wn).alloc (.cells #[.int .i64 (y.no:Nat),.int .i64 (y.pins:Nat),.int .i64 (y.rc:Nat),.int .i64 (y.stamp:Nat),.int .i64 (y.lsn:Nat),.slice A1 y.cells.length c1] 83);have HQA:=qh hqa;have HUA:=qh hua;have HOW:=qh (own_ok (HCE.out.up hua) (by have:=HYL.out;omega) (y.lsn:Nat))
   have hblt:b<wn.heap.size:=by
    obtain⟨_,_,hb,_⟩:=((HH.out.up HUN.out).fr _ HQM.out).ex;exact hb.lt
   clear hqa hua;go_wp2_with fail
   obtain⟨wa,hwa⟩:∃wa,wn.alloc (.cells #[.int .i64 (y.no:Nat),.int .i64 (y.pins:Nat),.int .i64 (y.rc:Nat),.int .i64 (y.stamp:Nat),.int .i64 (y.lsn:Nat),.slice A1 y.cells.length c1] 83)=wa:=⟨_,rfl⟩;rw[hwa]at HQA HUA HOW ⊢;clear hwa f0 f1 f2 f3 f4 f5;obtain⟨q6,hq6⟩:∃q6,wn.heap.size=q6:=⟨_,rfl⟩;rw[hq6]at HQA ⊢;refine HOW.out.mono ?_;rintro e w5 ⟨A2,c2,rfl,hO5,hu5⟩;have hb5:=HQA.out.upd hu5 id;have z4:=hb5.frozen 4;have z5:=hb5.frozen 5;have hbs:=(hb5.set_ 4 (.int .i64 (y.lsn:Nat))).set_ 5 (.slice A2 y.cells.length c2);have r0:=hbs.cell 0;have r1:=hbs.cell 1;have r2:=hbs.cell 2;have r3:=hbs.cell 3;have r4:=hbs.cell 4;have r5:=hbs.cell 5;have g4:=hb5.cell 4;have g5:=hb5.cell 5;simp only[qA,qZ,qS,qsA,qsS,qsZ]at r0 r1 r2 r3 r4 r5 g4 g5;go_upto_region 9 with(fail)
   obtain⟨w6,hw6⟩:∃w6,(w5.setCell ⟨q6,4,none⟩ (.int .i64 (y.lsn:Nat))).setCell ⟨q6,5,none⟩ (.slice A2 y.cells.length c2)=w6:=⟨_,rfl⟩;rw[hw6]at r0 r1 r2 r3 r4 r5 ⊢;have hu56:Upd (fun k=>k=q6) w5 w6:=by rw[←hw6];exact(Upd.one w5 q6 4 _).same (Upd.one _ q6 5 _)
   have hn6:∀k,(Value.slice A os.length c).ownBlock=some k→k≠q6:=fun k hk e=>by have:=HON.out.lt hk;omega
   have hun6:Upd Nowhere wn w6:=(HUA.out.same hu5).trans hu56 fun k hk e=>by omega
   have hO6:=HON.out.upd hun6 fun _ _=>id
   have hrow:=Blk.new w6 83 (frO (y,(A2,c2))).toArray
   obtain⟨A9,c9,w9,hrun,hO9,hu9⟩:=frame_row.appU (hO6.alloc (.cells (frO (y,(A2,c2))).toArray 83)) (by have:=HUN.out.size;have:=hun6.size;simp;omega) 80 (oneE frO_len hrow) (by
    have h1:=HG.out;have h2:os.length≤T.L.length:=HGL.out;have h3:=HT.out.len;have h4:=HT.out.most;simp only[qls];omega)
   simp only[qls]at hrun hO9;have hna:=noC_own (hO6.alloc (.cells (frO (y,(A2,c2))).toArray 83)) (by decide)
   have hC9:∀o∈os++[(y,(A2,c2))],CellsE w9 (slO o) o.1.cells:=fun o ho=>by
    have hup:∀{v:Value} {L:Cl},CellsE w6 v L→CellsE w9 v L:=fun hc=>(hc.up ((Upd.refl Nowhere w6).alloc _)).upd hu9 hna
    rcases qma.1 ho with ho | ho
    ·exact hup ((HCN.out o ho).up hun6)
    ·obtain rfl:=List.mem_singleton.1 ho;refine hup ((hO5.cellsE).upd hu56 fun k e hc=> ?_)
     subst e;exact hc.ne hb5 (by decide) rfl
   have hur:Upd Nowhere w w9:=((HUN.out.same hun6).alloc _).trans hu9 fun k hk e=>by have:=HO.out.new k e;omega
   have hRr:RangeIs intK w9 w.heap.size T.fm (frF T.L) (fun x=>left x∧x≠(y.no:Int)) cnt1:=by
    refine((HR1.out.upd hun6 id id).upd ((Upd.refl Nowhere w6).alloc _) id id).upd hu9 (fun e=> ?_) fun e=> ?_
    ·obtain⟨cs,hc⟩:=(hO6.alloc (.cells (frO (y,(A2,c2))).toArray 83)).is_cells e;exact((HR1.out.upd hun6 id id).upd ((Upd.refl Nowhere w6).alloc _) id id).map.not_cells hc
    ·obtain⟨cs,hc⟩:=(hO6.alloc (.cells (frO (y,(A2,c2))).toArray 83)).is_cells e;obtain⟨_,_,_,_,_,_,_,_,_,hi,_⟩:=(HR1.out.upd hun6 id id).upd ((Upd.refl Nowhere w6).alloc (.cells (frO (y,(A2,c2))).toArray 83)) id id;rw[hc]at hi
     cases hi
   have HRUN9:=qh hrun;have HO9:Hid (OwnF w.heap.size w9 (.slice A9 (os++[(y,(A2,c2))]).length c9) (os++[(y,(A2,c2))])):=qh (by rw[qla,qls];exact hO9)
   have HC9:=qh hC9;have HU9:=qh hur;have HRR:=qh hRr;have HG9:=qh (HG.out.step HH.out.nos HQM.out HLX.out (A2,c2));have HRL:Hid (w9.rangeLeft T.fm w.heap.size<wr.rangeLeft T.fm w.heap.size):=qh (by rw[hRr.left_eq,HR.out.left_eq];exact HLT.out)
   clear hw6 hu56 hn6 hun6 hO6 hrow hrun hO9 hu9 hna hC9 hur hRr hb5 hbs z4 z5 g4 g5 hO5 hu5;unfold frO at HRUN9;go_wp2_with (at_builtin;refine wpList_append_run rfl _ _ _ rfl rfl rfl HRUN9.out ?_)
   go_roundw
   case rel=>
    refine⟨_,cnt1,A9,c9,os++[(y,(A2,c2))],HRR.out,?_,HO9.out,HG9.out,HC9.out,HU9.out⟩;rw[qla,qls]
   case measure=>exact HRL.out
end
end Go.Proofs.YtdfccegeihfdpaaGreatDoor
