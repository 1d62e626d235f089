/-
  PoolPlays: the frames of both pools, told by one list: rising by their pages. PoolPlays: the document's Frames. PoolPlays: Dirty of both pools.
-/
import Derived.Test.YtdfccegeihfdpaaGreatDoorARfA
set_option maxRecDepth 100000
set_option maxHeartbeats 4000000
namespace Go.Proofs.YtdfccegeihfdpaaGreatDoor
open Go Go.RowKit
def SrtX(L X:List FrP):Prop:=(X.map (·.no)).Pairwise (·<·)∧∀x,x∈X↔x∈L
theorem srt_ext:∀(X Y:List FrP),(X.map (·.no)).Pairwise (·<·)→(Y.map (·.no)).Pairwise (·<·)→(∀x,x∈X↔x∈Y)→X=Y
 | [],[],_,_,_=>rfl
 | [],b::_,_,_,h=>absurd ((h b).2 (List.mem_cons_self ..)) (List.not_mem_nil)
 | a::_,[],_,_,h=>absurd ((h a).1 (List.mem_cons_self ..)) (List.not_mem_nil)
 | a::X,b::Y,h1,h2,h=>by
   rw[List.map_cons,List.pairwise_cons]at h1 h2;have k1:∀x∈X,a.no<x.no:=fun x hx=>h1.1 _ (List.mem_map.2 ⟨x,hx,rfl⟩)
   have k2:∀x∈Y,b.no<x.no:=fun x hx=>h2.1 _ (List.mem_map.2 ⟨x,hx,rfl⟩)
   have e:a=b:=by
    rcases qmc.1 ((h a).1 (List.mem_cons_self ..)) with e | ha
    ·exact e
    ·rcases qmc.1 ((h b).2 (List.mem_cons_self ..)) with e | hb
     ·exact e.symm
     ·have:=k1 b hb;have:=k2 a ha;omega
   subst e;rw[srt_ext X Y h1.2 h2.2 fun x=>⟨fun hx=> ?_,fun hx=> ?_⟩]
   ·rcases qmc.1 ((h x).1 (List.mem_cons_of_mem _ hx)) with rfl | hy
    ·exact absurd (k1 x hx) (Nat.lt_irrefl _)
    ·exact hy
   ·rcases qmc.1 ((h x).2 (List.mem_cons_of_mem _ hx)) with rfl | hy
    ·exact absurd (k2 x hx) (Nat.lt_irrefl _)
    ·exact hy
theorem SrtX.one{L X Y:List FrP}(h:SrtX L X)(h':SrtX L Y):X=Y:=srt_ext X Y h.1 h'.1 fun x=>(h.2 x).trans (h'.2 x).symm
theorem FrsP.srt{T:PoS}{w:World}{v:Value}{os:List FrO}(h:FrsP T w v os):SrtX (frs T) (os.map (·.1)):=by
 refine⟨by rw[List.map_map];exact h.sort,fun x=>⟨fun hx=> ?_,fun hx=> ?_⟩⟩
 ·obtain⟨o,ho,rfl⟩:=List.mem_map.1 hx;obtain⟨q,hq,e⟩:=h.of o ho;exact List.mem_map.2 ⟨q,hq,e⟩
 ·obtain⟨q,hq,rfl⟩:=List.mem_map.1 hx;obtain⟨o,ho,e⟩:=h.mem q hq;exact List.mem_map.2 ⟨o,ho,e⟩
structure GathD(L:List FrP)(n:Nat)(os:List FrO):Prop where
 sort:SortF os
 from_:∀o∈os,o.1∈L∧o.1.no<n
 all:∀x∈L,x.no<n→∃o∈os,o.1=x
theorem GathD.start(L:List FrP):GathD L 0 []:=⟨List.Pairwise.nil,fun _ h=>(by cases h),fun _ _ h=>absurd h (Nat.not_lt_zero _)⟩
theorem no_inj{L:List FrP}(hn:(L.map (·.no)).Nodup){x y:FrP}(hx:x∈L)(hy:y∈L)(e:x.no=y.no):x=y:=by
 obtain⟨i,hi⟩:=List.getElem?_of_mem hx;obtain⟨j,hj⟩:=List.getElem?_of_mem hy;have hl:=(qei.1 hi).1;have e2:(L.map (·.no))[i]? =(L.map (·.no))[j]? :=by rw[qgm,qgm,hi,hj];simp[e]
 have:=(List.getElem?_inj (by simpa using hl) hn).1 e2
 subst this;rw[hi]at hj;exact Option.some.inj hj
theorem GathD.hit{L:List FrP}{n:Nat}{os:List FrO}(h:GathD L n os)(hn:(L.map (·.no)).Nodup){x:FrP}(hx:x∈L)(e:x.no=n)(s:Option Addr×Nat):GathD L (n+1) (os++[(x,s)]):=by
 refine⟨?_,fun o ho=> ?_,fun y hy hlt=> ?_⟩
 ·unfold SortF;rw[List.map_append,List.pairwise_append];refine⟨h.sort,List.pairwise_singleton ..,fun a ha b hb=> ?_⟩
  obtain⟨o,ho,rfl⟩:=List.mem_map.1 ha;simp only[List.map_cons,List.map_nil,List.mem_singleton]at hb;have:=(h.from_ o ho).2;rw[hb]
  show o.1.no<x.no
  omega
 ·rcases qma.1 ho with ho | ho
  ·exact⟨(h.from_ o ho).1,Nat.lt_succ_of_lt (h.from_ o ho).2⟩
  ·rw[List.mem_singleton.1 ho];exact⟨hx,Nat.lt_succ_of_le (Nat.le_of_eq e)⟩
 ·by_cases e2:y.no<n
  ·obtain⟨o,ho,e3⟩:=h.all y hy e2;exact⟨o,qma.2 (.inl ho),e3⟩
  ·obtain rfl:=no_inj hn hx hy (by omega)
   exact⟨_,qma.2 (.inr (List.mem_singleton.2 rfl)),rfl⟩
theorem GathD.miss{L:List FrP}{n:Nat}{os:List FrO}(h:GathD L n os)(hno:∀x∈L,(x.no:Int)≠(n:Nat)):GathD L (n+1) os:=
 ⟨h.sort,fun o ho=>⟨(h.from_ o ho).1,Nat.lt_succ_of_lt (h.from_ o ho).2⟩,fun y hy hlt=>h.all y hy (by have:=hno y hy;omega)⟩
theorem GathD.len{L:List FrP}{n:Nat}{os:List FrO}(h:GathD L n os):os.length≤n:=by
 have hn:(os.map fun o:FrO=>o.1.no).Nodup:=h.sort.imp fun h=>Nat.ne_of_lt h
 have h1:=nodup_sub_len (os.map fun o:FrO=>o.1.no) (List.range n) hn fun k hk=>by
  obtain⟨o,ho,rfl⟩:=List.mem_map.1 hk;exact List.mem_range.2 (h.from_ o ho).2
 simpa using h1
theorem GathD.frs{T:PoS}{n:Nat}{os:List FrO}(h:GathD (frs T) n os)(hb:∀r∈T.L,r.1.no<n){w:World}{v:Value}(hO:∃B,OwnF B w v os)(hC:∀o∈os,CellsE w (slO o) o.1.cells):FrsP T w v os:=
 ⟨hO,fun q hq=>h.all q.1 (List.mem_map.2 ⟨q,hq,rfl⟩) (hb q hq),fun o ho=>by
  obtain⟨q,hq,e⟩:=List.mem_map.1 (h.from_ o ho).1;exact⟨q,hq,e⟩,h.sort,hC⟩
def dlF(X:List FrP):List (Nat×Nat):=(X.filter fun x=>decide (0<x.rc)).map fun x=>(x.no,x.rc)
def dyC(y:Nat×Nat):List Value:=[.int .i64 (y.1:Nat),.int .i64 (y.2:Nat)]
theorem dy_row:RowK Tryz.prog 36 168 dyC 2:=
 ⟨Tryz.underlying36,⟨.agg #[.int .i64 0,.int .i64 0],16,by kernel_rfl,rfl,by decide⟩,fun _=>rfl,fun a u h=>by
  simp only[dyC,qmc,List.not_mem_nil,or_false]at h
  rcases h with rfl | rfl<;>rfl,by decide⟩
theorem dyC_len(y:Nat×Nat):(dyC y).length=2:=rfl
abbrev OwnY:=OwnR 168 dyC 2
theorem dlF_len(X:List FrP):(dlF X).length≤X.length:=by
 unfold dlF;rw[qlm];exact List.length_filter_le ..
theorem dlF_take{X:List FrP}{i:Nat}{x:FrP}(h:X[i]? =some x):dlF (X.take (i+1))=dlF (X.take i)++(if 0<x.rc then [(x.no,x.rc)] else []):=by
 unfold dlF;rw[List.take_add_one,h,List.filter_append,List.map_append]
 congr 1
 by_cases h:0<x.rc
 ·simp[h]
 ·simp[h]
def FrsQ(T:PoS)(w:World)(e:Ending)(w':World):Prop:=∃v os,e= .returned v∧FrsP T w' v os∧Upd Nowhere w w'
theorem rframes_ok{bz:Nat}{w:World}{q most:Nat}{T:PoS}{M:DkM}{la fo ck:Nat}(h:RfAt bz w q most T.pages (frs T) M la fo ck)(hn:(T.L.map (·.1.no)).Nodup)(hl:T.L.length≤1000)(hp:T.pages≤1000)(hb:∀r∈T.L,r.1.no<T.pages):Calls Tryz.prog 36 #[.pointer (some ⟨q,0,none⟩)] w (FrsQ T w):=by
 have HH:=qh h;have HN:Hid ((frs T).map (·.no)).Nodup:=qh (by unfold frs;rw[List.map_map];exact hn)
 have HL:Hid ((frs T).length≤1000):=qh (by unfold frs;rw[qlm];exact hl)
 have HB:=qh hb;have hpI:(T.pages:Int)≤1000:=by omega
 obtain⟨pg,hpg⟩:∃pg,T.pages=pg:=⟨_,rfl⟩;rw[hpg]at HH HB hpI;have HP:=qh hpg;clear h hn hl hp hb hpg;go_enter Tryz.func36,Tryz.ntmps36
 go_wp2_with fail
 go_loopw [3,4] (fun s3 s4 wr=>∃(k:Nat) (A:Option Addr) (c:Nat) (os:List FrO),s4= .int .i64 (k:Int)∧k≤pg∧s3= .slice A os.length c∧OwnF w.heap.size wr (.slice A os.length c) os∧GathD (frs T) k os∧(∀o∈os,CellsE wr (slO o) o.1.cells)∧Upd Nowhere w wr) (fun _ s4 _=>pg - (intOf s4).toNat)
 case atStart=>exact⟨0,none,0,[],rfl,Nat.zero_le _,rfl,OwnR.nil _ _ _ _ _,GathD.start _,fun o ho=>(by cases ho),Upd.refl _ _⟩
 case round=>
  obtain⟨k,A,c,os,rfl,hk,rfl,hO,hG,hC,hu⟩:=hrel;have HO:=qh hO;have HG:=qh hG;have HC:=qh hC;have HU:=qh hu;have hR:=HH.out.up hu;obtain⟨v9,a9,b9,os9,q1,_⟩:=hR.ex;have c2:=q1.cell 2;unfold boxD at c2;simp only[qA,qZ,qS]at c2;have HR:=qh hR;clear hO hG hC hu q1 hR;by_cases hlt:k<pg
  ·have HF:=qh (rfind_ok HR.out (k:Nat) HL.out);have hkI:(k:Int)<(pg:Int):=by omega
   have hkJ:(k:Int)≤1000:=by omega
   go_wp2_with fail
   refine HF.out.mono ?_;rintro e w8 ⟨hf,hw8⟩;obtain rfl:=hw8.symm;clear HF c2
   rcases hf with⟨i,x,rfl,hix,hxn⟩ | ⟨rfl,hno⟩
   ·obtain⟨a,b,od,g,cg,o,⟨h1,h2,h3,h4,h5,h6,h7⟩,ho,hor,hlo,hio,hfz,c1,d0,d1,d2,d3,d4,d5,d6,hce⟩:=HR.out.at_ hix;obtain⟨ln,hln⟩:∃ln,od.length=ln:=⟨_,rfl⟩;have hl2:(ln:Int)≤1000:=by have:=HL.out;omega
    have hiI:(i:Int)<(ln:Int):=by omega
    have hi0:¬(i:Int)<0:=by omega
    rw[hln]at c1;have hrow:=Blk.new wr 83 (frO (x,o.2)).toArray;have hOa:=HO.out.alloc (.cells (frO (x,o.2)).toArray 83);obtain⟨A9,c9,w9,hrun,hO9,hu9⟩:=frame_row.appU hOa (by have:=HU.out.size;simp;omega) 80 (oneE frO_len hrow) (by have:=HG.out.len;simp only[qls];omega)
    simp only[qls]at hrun hO9;have hna:=noC_own hOa (by decide)
    have hxm:x∈frs T:=qmg hix
    have hC9:∀o'∈os++[(x,o.2)],CellsE w9 (slO o') o'.1.cells:=fun o' ho'=>by
     have hup:∀{v:Value} {L:Cl},CellsE wr v L→CellsE w9 v L:=fun hc=>(hc.up ((Upd.refl Nowhere wr).alloc _)).upd hu9 hna
     rcases qma.1 ho' with ho' | ho'
     ·exact hup (HC.out o' ho')
     ·obtain rfl:=List.mem_singleton.1 ho';exact hup hce
    have hur:Upd Nowhere w w9:=(HU.out.alloc _).trans hu9 fun k hk e=>by have:=HO.out.new k e;omega
    have HRUN9:=qh hrun;have HO9:Hid (OwnF w.heap.size w9 (.slice A9 (os++[(x,o.2)]).length c9) (os++[(x,o.2)])):=qh (by rw[qla,qls];exact hO9)
    have HC9:=qh hC9;have HU9:=qh hur;have HG9:=qh (HG.out.hit HN.out hxm (by omega) o.2)
    unfold frO at HRUN9;clear h1 h2 h3 h4 h5 h6 h7 ho hor hlo hio hfz hln hix hxn hce hrow hOa hrun hO9 hu9 hna hxm hC9 hur d6;go_wp2_with (at_builtin;refine wpList_append_run rfl _ _ _ rfl rfl rfl HRUN9.out ?_)
    go_roundw
    case rel=>
     refine⟨k+1,A9,c9,os++[(x,o.2)],by go_num,by omega,?_,HO9.out,HG9.out,HC9.out,HU9.out⟩
     rw[qla,qls]
    case measure=>simp[intOf];omega
   ·have HG9:=qh (HG.out.miss hno);clear hno;go_wp2_with fail
    go_roundw
    case rel=>exact⟨k+1,A,c,os,by go_num,by omega,rfl,HO.out,HG9.out,HC.out,HU.out⟩
    case measure=>simp[intOf];omega
  ·have e:k=pg:=by omega
   subst e;have hkk:¬(k:Int)<(k:Int):=by omega
   go_wp2_with fail
   go_ret;exact⟨_,os,rfl,HG.out.frs HB.out ⟨_,HO.out⟩ HC.out,HU.out⟩
def DrtA(L:List FrP)(W:World)(e:Ending)(w':World):Prop:=∃v B X,e= .returned v∧SrtX L X∧OwnY B w' v (dlF X)∧Upd Nowhere W w'
theorem ownF_get{B:Nat}{w:World}{v:Value}{os:List FrO}(hO:OwnF B w v os){i:Nat}{o:FrO}(ho:os[i]? =some o):∃b off c,v= .slice (some ⟨b,off,none⟩) os.length c∧b<w.heap.size∧w.cell? ⟨b,off+i * 6,none⟩=some (.int .i64 (o.1.no:Nat))∧w.cell? ⟨b,off+i * 6+1,none⟩=some (.int .i64 (o.1.pins:Nat))∧w.cell? ⟨b,off+i * 6+2,none⟩=some (.int .i64 (o.1.rc:Nat))∧w.cell? ⟨b,off+i * 6+3,none⟩=some (.int .i64 (o.1.stamp:Nat))∧w.cell? ⟨b,off+i * 6+4,none⟩=some (.int .i64 (o.1.lsn:Nat))∧w.cell? ⟨b,off+i * 6+5,none⟩=some (.slice o.2.1 o.1.cells.length o.2.2):=by
 obtain⟨b,off,c,hv,hb,hc⟩:=hO.els.get frO_len ho;have h0:=hc 0 (by omega)
 rw[Nat.add_zero]at h0;exact⟨b,off,c,hv,hb,h0,hc 1 (by omega),hc 2 (by omega),hc 3 (by omega),hc 4 (by omega),hc 5 (by omega)⟩
theorem FrsP.len{T:PoS}{w:World}{v:Value}{os:List FrO}(h:FrsP T w v os):os.length≤T.L.length:=by
 have hn:(os.map fun o:FrO=>o.1.no).Nodup:=h.sort.imp fun h=>Nat.ne_of_lt h
 have h1:=nodup_sub_len (os.map fun o:FrO=>o.1.no) (T.L.map fun q:FrB=>q.1.no) hn fun k hk=>by
  obtain⟨o,ho,rfl⟩:=List.mem_map.1 hk;obtain⟨q,hq,e⟩:=h.of o ho;exact List.mem_map.2 ⟨q,hq,by show q.1.no=_;rw[e]⟩
 simpa using h1
theorem dl_step{os:List FrO}{k:Nat}{o:FrO}(ho:os[k]? =some o):dlF ((os.map (·.1)).take (k+1))=dlF ((os.map (·.1)).take k)++(if 0<o.1.rc then [(o.1.no,o.1.rc)] else []):=
 dlF_take (by rw[qgm,ho];rfl)
theorem dl_all{os:List FrO}:dlF ((os.map (·.1)).take os.length)=dlF (os.map (·.1)):=by
 rw[List.take_of_length_le (by rw[qlm];exact qlr _)]
theorem dl_len(os:List FrO)(k:Nat):(dlF ((os.map (·.1)).take k)).length≤os.length:=by
 refine Nat.le_trans (dlF_len _) ?_;rw[qlt,qlm];exact Nat.min_le_right _ _
theorem pdirty_ok{w:World}{bz P l:Nat}{p:DkP}{S:LogS}{T:PoS}(h:PoolAt bz w P p l S T)(hT:PoB T):
 Calls Tryz.prog 38 #[.pointer (some ⟨P,0,none⟩)] w (DrtA (frs T) w):=by
 have HF:=qh (frames_ok h hT);have HLT:Hid (T.L.length≤20):=qh (by have:=hT.len;have:=hT.most;omega)
 clear h hT;go_enter Tryz.func38,Tryz.ntmps38
 go_wp2_with fail
 refine HF.out.mono ?_;rintro e w1 ⟨v,os,rfl,hP,hu1⟩;obtain⟨B,hO⟩:=hP.own;obtain⟨A0,c0,rfl,_⟩:=hO.els.val;have HP:=qh hP;have HO:=qh hO;have HU1:=qh hu1;have hnl:os.length≤20:=by have:=hP.len;have:=HLT.out;omega
 obtain⟨n,hn⟩:∃n,os.length=n:=⟨_,rfl⟩;rw[hn];have HN:=qh hn;have hnI:(n:Int)≤20:=by omega
 clear hP hO hu1 HF hnl hn;go_wp2_with fail
 go_loopw [3,9] (fun s3 s9 wr=>∃(k:Nat) (A:Option Addr) (c m:Nat),s9= .int .i64 (k:Int)∧k≤n∧s3= .slice A m c∧(dlF ((os.map (·.1)).take k)).length=m∧OwnY w1.heap.size wr (.slice A m c) (dlF ((os.map (·.1)).take k))∧Upd Nowhere w1 wr) (fun _ s9 _=>n - (intOf s9).toNat)
 case atStart=>exact⟨0,none,0,0,rfl,Nat.zero_le _,rfl,rfl,OwnR.nil _ _ _ _ _,Upd.refl _ _⟩
 case round=>
  obtain⟨k,A,c,m,rfl,hk,rfl,hm,hY,hu⟩:=hrel;have HY:=qh hY;have HM:=qh hm;have HU:=qh hu;clear hY hm hu;by_cases hlt:k<n
  ·obtain⟨o,ho⟩:∃o,os[k]? =some o:=⟨_,qeg (by rw[HN.out];exact hlt)⟩
   have hg:=ownF_get (HO.out.upd HU.out fun _ _=>id) ho
   rw[HN.out]at hg;obtain⟨b,off,c9,he,hb,p0,p1,p2,p3,p4,p5⟩:=hg
   cases he;have hkI:(k:Int)<(n:Int):=by omega
   have hqa:=Blk.new wr 83 (frO o).toArray;have hua:=(Upd.refl Nowhere wr).alloc (.cells (frO o).toArray 83);obtain⟨wa,hwa⟩:∃wa,wr.alloc (.cells (frO o).toArray 83)=wa:=⟨_,rfl⟩;rw[hwa]at hqa hua;have HW:=qh hwa;obtain⟨q6,hq6⟩:∃q6,wr.heap.size=q6:=⟨_,rfl⟩;rw[hq6]at hqa;have r0:=hqa.cell 0;have r2:=hqa.cell 2;unfold frO at r0 r2 HW;simp only[qA,qZ,qS]at r0 r2;have HUA:=qh (HU.out.same hua);have HYA:=qh (HY.out.upd hua fun _ _=>id)
   have HST:=qh (dl_step ho);have HQ6:=qh hq6;have HML:Hid (m≤n):=qh (by have:=dl_len os k;have:=HM.out;have:=HN.out;omega)
   clear hua ho hb hqa hwa hq6;go_upto_region 5 with(fail)
   rw[HW.out,HQ6.out];clear HW HQ6 p0 p1 p2 p3 p4 p5;obtain⟨rv,hrv⟩:∃rv,o.1.rc=rv:=⟨_,rfl⟩;obtain⟨nv,hnv⟩:∃nv,o.1.no=nv:=⟨_,rfl⟩;rw[hrv]at r2 HST;rw[hnv]at r0 HST;clear hrv hnv;by_cases hr:0<rv
   ·have hst:=HST.out;rw[if_pos hr]at hst;have hrow:=Blk.new wa 168 (dyC (nv,rv)).toArray;have hYa:=HYA.out.alloc (.cells (dyC (nv,rv)).toArray 168);obtain⟨A9,c9,w9,hrun,hO9,hu9⟩:=dy_row.appU hYa (by have:=HUA.out.size;simp;omega) 36 (oneE dyC_len hrow) (by have:=HM.out;have:=HML.out;simp only[qls];omega)
    rw[←hst]at hO9;rw[HM.out]at hrun hO9;simp only[qls]at hrun hO9;have hur:Upd Nowhere w1 w9:=(HUA.out.alloc _).trans hu9 fun k hk e=>by have:=HYA.out.new k e;omega
    have HRUN9:=qh hrun;have HO9:=qh hO9;have HU9:=qh hur;have HLE:Hid ((dlF ((os.map (·.1)).take (k+1))).length=m+1):=qh (by rw[hst,qla,HM.out];rfl)
    have hrI:(0:Int)<(rv:Int):=by omega
    unfold dyC at HRUN9;clear hst hrow hYa hrun hO9 hu9 hur;go_wp2_with (at_builtin;refine wpList_append_run rfl _ _ _ rfl rfl rfl HRUN9.out ?_)
    go_roundw
    case rel=>exact⟨k+1,A9,c9,m+1,by go_num,by omega,rfl,HLE.out,HO9.out,HU9.out⟩
    case measure=>simp[intOf];omega
   ·have hst:=HST.out;rw[if_neg hr,List.append_nil]at hst;have hrI:¬(0:Int)<(rv:Int):=by omega
    have hrd:decide ((0:Int)<(rv:Int))=false:=decide_eq_false hrI;have HST2:=qh hst;clear hst;go_wp2_with fail
    go_roundw
    case rel=>exact⟨k+1,A,c,m,by go_num,by omega,rfl,by rw[HST2.out];exact HM.out,by rw[HST2.out];exact HYA.out,HUA.out⟩
    case measure=>simp[intOf];omega
  ·have e:k=n:=by omega
   subst e;have hkk:¬(k:Int)<(k:Int):=by omega
   have HY2:Hid (OwnY w1.heap.size wr (.slice A m c) (dlF (os.map (·.1)))):=qh (by have:=HY.out;rw[←HN.out,dl_all]at this;exact this)
   go_wp2_with fail
   go_ret;exact⟨_,_,_,rfl,HP.out.srt,HY2.out,HU1.out.same HU.out⟩
theorem rdirty_ok{bz:Nat}{w:World}{q most:Nat}{T:PoS}{M:DkM}{la fo ck:Nat}(h:RfAt bz w q most T.pages (frs T) M la fo ck)(hn:(T.L.map (·.1.no)).Nodup)(hl:T.L.length≤20)(hp:T.pages≤1000)(hb:∀r∈T.L,r.1.no<T.pages):
 Calls Tryz.prog 39 #[.pointer (some ⟨q,0,none⟩)] w (DrtA (frs T) w):=by
 have HF:=qh (rframes_ok h hn (by omega) hp hb)
 have HLT:=qh hl;clear h hn hl hp hb;go_enter Tryz.func39,Tryz.ntmps39
 go_wp2_with fail
 refine HF.out.mono ?_;rintro e w1 ⟨v,os,rfl,hP,hu1⟩;obtain⟨B,hO⟩:=hP.own;obtain⟨A0,c0,rfl,_⟩:=hO.els.val;have HP:=qh hP;have HO:=qh hO;have HU1:=qh hu1;have hnl:os.length≤20:=by have:=hP.len;have:=HLT.out;omega
 obtain⟨n,hn⟩:∃n,os.length=n:=⟨_,rfl⟩;rw[hn];have HN:=qh hn;have hnI:(n:Int)≤20:=by omega
 clear hP hO hu1 HF hnl hn;go_wp2_with fail
 go_loopw [3,5] (fun s3 s5 wr=>∃(k:Nat) (A:Option Addr) (c m:Nat),s5= .int .i64 (k:Int)∧k≤n∧s3= .slice A m c∧(dlF ((os.map (·.1)).take k)).length=m∧OwnY w1.heap.size wr (.slice A m c) (dlF ((os.map (·.1)).take k))∧Upd Nowhere w1 wr) (fun _ s5 _=>n - (intOf s5).toNat)
 case atStart=>exact⟨0,none,0,0,rfl,Nat.zero_le _,rfl,rfl,OwnR.nil _ _ _ _ _,Upd.refl _ _⟩
 case round=>
  obtain⟨k,A,c,m,rfl,hk,rfl,hm,hY,hu⟩:=hrel;have HY:=qh hY;have HM:=qh hm;have HU:=qh hu;clear hY hm hu;by_cases hlt:k<n
  ·obtain⟨o,ho⟩:∃o,os[k]? =some o:=⟨_,qeg (by rw[HN.out];exact hlt)⟩
   have hg:=ownF_get (HO.out.upd HU.out fun _ _=>id) ho
   rw[HN.out]at hg;obtain⟨b,off,c9,he,hb,p0,_,p2,_⟩:=hg
   cases he;have hkI:(k:Int)<(n:Int):=by omega
   have HST:=qh (dl_step ho);have HML:Hid (m≤n):=qh (by have:=dl_len os k;have:=HM.out;have:=HN.out;omega)
   obtain⟨rv,hrv⟩:∃rv,o.1.rc=rv:=⟨_,rfl⟩;obtain⟨nv,hnv⟩:∃nv,o.1.no=nv:=⟨_,rfl⟩;rw[hrv]at p2 HST;rw[hnv]at p0 HST;clear hrv hnv ho hb;by_cases hr:0<rv
   ·have hst:=HST.out;rw[if_pos hr]at hst;have HYD:=HY.out.upd (Upd.refl Nowhere wr).drew fun _ _=>id
    have hrow:=Blk.new wr.drew 168 (dyC (nv,rv)).toArray;have hYa:=HYD.alloc (.cells (dyC (nv,rv)).toArray 168);obtain⟨A9,c9,w9,hrun,hO9,hu9⟩:=dy_row.appU hYa (by have:=HU.out.drew.size;simp at this ⊢;omega) 36 (oneE dyC_len hrow) (by have:=HM.out;have:=HML.out;simp only[qls];omega)
    rw[←hst]at hO9;rw[HM.out]at hrun hO9;simp only[qls]at hrun hO9;have hur:Upd Nowhere w1 w9:=(HU.out.drew.alloc _).trans hu9 fun k hk e=>by have:=HY.out.new k e;omega
    have HRUN9:=qh hrun;have HO9:=qh hO9;have HU9:=qh hur;have HLE:Hid ((dlF ((os.map (·.1)).take (k+1))).length=m+1):=qh (by rw[hst,qla,HM.out];rfl)
    have hrI:(0:Int)<(rv:Int):=by omega
    unfold dyC at HRUN9;clear hst hrow hYa hrun hO9 hu9 hur HYD;go_wp2_with fail
    go_region_law (refine step_append_run rfl _ _ _ rfl rfl rfl HRUN9.out ?_)
    all_goals
     go_wp2_with fail
     go_roundw
     case rel=>exact⟨k+1,A9,c9,m+1,by go_num,by omega,rfl,HLE.out,HO9.out,HU9.out⟩
     case measure=>simp[intOf];omega
   ·have hst:=HST.out;rw[if_neg hr,List.append_nil]at hst;have hrI:¬(0:Int)<(rv:Int):=by omega
    have hrd:decide ((0:Int)<(rv:Int))=false:=decide_eq_false hrI;have HST2:=qh hst;clear hst;go_wp2_with fail
    go_roundw
    case rel=>exact⟨k+1,A,c,m,by go_num,by omega,rfl,by rw[HST2.out];exact HM.out,by rw[HST2.out];exact HY.out,HU.out⟩
    case measure=>simp[intOf];omega
  ·have e:k=n:=by omega
   subst e;have hkk:¬(k:Int)<(k:Int):=by omega
   have HY2:Hid (OwnY w1.heap.size wr (.slice A m c) (dlF (os.map (·.1)))):=qh (by have:=HY.out;rw[←HN.out,dl_all]at this;exact this)
   go_wp2_with fail
   go_ret;exact⟨_,_,_,rfl,HP.out.srt,HY2.out,HU1.out.same HU.out⟩
end Go.Proofs.YtdfccegeihfdpaaGreatDoor
