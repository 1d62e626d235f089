/-
  Contracts of layer 12: Fetch.
-/
import Derived.Test.YtdfccegeihfdpaaGreatDoorAPgM
set_option maxRecDepth 100000
set_option maxHeartbeats 4000000
namespace Go.Proofs.YtdfccegeihfdpaaGreatDoor
open Go Go.RowKit
def RoomR(S:LogS)(T:PoS)(R:(LogS×PoS)×Int):Prop:=
 (T.L.length<T.most∧R=((S,T),0))∨(¬T.L.length<T.most∧(∀q∈T.L,q.1.pins≠0)∧R=((S,T),120))∨(¬T.L.length<T.most∧∃q,IsOld T.L q∧R=evS S T q)
def tickT(T:PoS):PoS:={ T with clock:=T.clock+1 }
def touchT(T:PoS)(q:FrB):PoS:={ T with L:=updF T.L { q.1 with pins:=q.1.pins+1,at_:=T.clock } }
def newFr(n:Nat)(pq:PgP)(pt:Nat):FrP:=⟨n,0,0,pt,pq.lsn,pq.cells,0⟩
def addT(T:PoS)(x:FrP)(b:Nat):PoS:={ T with L:=T.L++[(x,b)] }
section
variable {w:World} {bz P l:Nat} {p:DkP} {S:LogS} {T:PoS}
theorem RoomP.out{e:Ending}{w':World}(h:RoomP bz P l p S T w e w'):∃R,RoomR S T R∧PwP bz P l p R w e w':=by
 obtain⟨h1,h2⟩:=h;by_cases hl:T.L.length<T.most
 ·exact⟨_,.inl ⟨hl,rfl⟩,h1 hl⟩
 ·rcases h2 hl with⟨h3,h4⟩ | ⟨q,h3,h4⟩
  ·exact⟨_,.inr (.inl ⟨hl,h3,rfl⟩),h4⟩
  ·exact⟨_,.inr (.inr ⟨hl,q,h3,rfl⟩),h4⟩
def FetchP(bz P l:Nat)(p:DkP)(S:LogS)(T:PoS)(n:Nat)(pq:PgP)(pt:Nat)(w:World)(e:Ending)(w':World):Prop:=
 (∀q,findF T.L n=some q→PwP bz P l p ((S,touchT (tickT T) q),0) w e w')∧
 (findF T.L n=none→∃R,RoomR S (tickT T) R∧(R.2≠0→PwP bz P l p R w e w')∧(R.2=0→∃b,PwP bz P l p ((R.1.1,touchT (addT R.1.2 (newFr n pq pt) b) (newFr n pq pt,b)),0) w e w'))
theorem findF_add(L:List FrB)(q:FrB)(m:Int)(h:findF L (q.1.no:Int)=none):findF (L++[q]) m=if m=(q.1.no:Int) then some q else findF L m:=by
 unfold findF at*;rw[List.find?_append];by_cases hm:m=(q.1.no:Int)
 ·rw[if_pos hm,hm,h];simp
 ·rw[if_neg hm]
  cases L.find? (fun q=>decide ((q.1.no:Int)=m)) with
  | some r=>rfl
  | none=>
    show(none.or ([q].find? _))=none
    rw[List.find?_cons_of_neg (by simpa using fun e=>hm e.symm)]
    rfl
theorem PoolAt.add(h:PoolAt bz w P p l S T){x:FrP}{b:Nat}(hn:findF T.L (x.no:Int)=none)(hx:FrAt w b x)(hb:∀q∈T.L,q.2≠b)(hge:bz≤b):∃w',(Instr.mapUpdate 137 (.map (some T.fm)) (.int .i64 (x.no:Nat)) (.pointer (some ⟨b,0,none⟩))).run Tryz.prog w= .ok () w'∧PoolAt bz w' P p l S (addT T x b)∧Upd (fun k=>k=T.fm) w w':=by
 obtain⟨w',hr,hm,hg,_⟩:=h.map.store keyI Tryz.underlying137 Tryz.underlying3 (x.no:Int) (.pointer (some ⟨b,0,none⟩));have hu:Upd (fun k=>k=T.fm) w w':=⟨hg.os,hg.tape,hg.output,hg.size,fun k hk hn=>hg.block k hk fun e=>hn (by injection e)⟩
 have hf:putF (frF T.L) (x.no:Int) (some (.pointer (some ⟨b,0,none⟩)))=frF (T.L++[(x,b)]):=by
  funext m
  unfold frF putF;rw[findF_add T.L (x,b) m hn];split<;>rfl
 rw[hf]at hm;refine⟨w',hr,h.fm_upd hu (L':=T.L++[(x,b)]) hm (fun q hq=> ?_) ?_ ?_,hu⟩
 ·rcases qma.1 hq with hq | hq
  ·exact⟨h.fr q hq,h.ge q hq⟩
  ·obtain rfl:=List.mem_singleton.1 hq;exact⟨hx,hge⟩
 ·rw[List.map_append,List.nodup_append];refine⟨h.nd,by simp,?_⟩
  intro a ha c hc;obtain⟨q,hq,rfl⟩:=List.mem_map.1 ha;simp only[List.map_cons,List.map_nil,List.mem_singleton]at hc;rw[hc];exact hb q hq
 ·rw[List.map_append,List.nodup_append];refine⟨h.nos,by simp,?_⟩
  intro a ha c hc;obtain⟨q,hq,rfl⟩:=List.mem_map.1 ha;simp only[List.map_cons,List.map_nil,List.mem_singleton]at hc;rw[hc];intro e;exact findF_none hn q hq (by omega)
theorem backS_rel(S:LogS)(T:PoS)(x:FrP):∃L',(backS S T x).1.2={ T with L:=L' }∧∀n,findF T.L n=none→findF L' n=none:=by
 unfold backS;split
 ·exact⟨_,rfl,fun _ h=>h⟩
 ·split
  ·exact⟨_,rfl,fun _ h=>h⟩
  ·split
   ·exact⟨_,rfl,fun _ h=>h⟩
   ·refine⟨_,rfl,fun n h=> ?_⟩
    have h1:=frF_upd T.L { x with stamp:=x.stamp+1,rc:=0 } n
    unfold frF at h1;rw[h]at h1
    cases hf:findF (updF T.L { x with stamp:=x.stamp+1,rc:=0 }) n with
    | none=>rfl
    | some q=>rw[hf]at h1;cases h1
theorem evS_rel(S:LogS)(T:PoS)(q:FrB):∃L',(evS S T q).1.2={ T with L:=L' }∧∀n,findF T.L n=none→findF L' n=none:=by
 obtain⟨L',h1,h2⟩:=backS_rel S T q.1;unfold evS;split
 ·refine⟨remF L' q.1.no,by rw[h1],fun n h=> ?_⟩
  rw[findF_rem];split
  ·rfl
  ·exact h2 n h
 ·exact⟨L',h1,h2⟩
theorem RoomR.rel{R:(LogS×PoS)×Int}(h:RoomR S T R):∃L',R.1.2={ T with L:=L' }∧∀n,findF T.L n=none→findF L' n=none:=by
 rcases h with⟨_,rfl⟩ | ⟨_,_,rfl⟩ | ⟨_,q,_,rfl⟩
 ·exact⟨T.L,rfl,fun _ h=>h⟩
 ·exact⟨T.L,rfl,fun _ h=>h⟩
 ·exact evS_rel S T q
theorem touch_at{w':World}(h:PoolAt bz w P p l S T){x:FrP}{b:Nat}(hq:(x,b)∈T.L)(hw:w'=(w.setCell ⟨b,1,none⟩ (.int .i64 ((x.pins+1:Nat):Int))).setCell ⟨b,6,none⟩ (.int .i64 (T.clock:Nat))):PoolAt bz w' P p l S (touchT T (x,b))∧Upd (PoolF bz w) w w':=by
 subst hw;have hf:=((h.fr _ hq).set (x':={ x with pins:=x.pins+1 }) 1 (.int .i64 ((x.pins+1:Nat):Int)) rfl fun v=>rfl).set (x':={ x with pins:=x.pins+1,at_:=T.clock }) 6 (.int .i64 (T.clock:Nat)) rfl fun v=>rfl
 exact⟨h.setFr hq (x:={ x with pins:=x.pins+1,at_:=T.clock }) rfl ((Upd.one w b 1 _).same (Upd.one _ b 6 _)) hf,((Upd.refl _ w).setCell (p:=⟨b,1,none⟩) (fun _=>h.frameF hq) _).setCell (p:=⟨b,6,none⟩) (fun _=>h.frameF hq) _⟩
theorem fetch_ok(h:PoolAt bz w P p l S T)(hT:PoB T)(hc:T.clock+1≤1000)(hK:PoK S (tickT T))(hW:HalfW w)(n:Nat)(hin:inT T (n:Int))(pq:PgP)(pt:Nat)(hpq:pq.ok)(hpt:pt≤1000)
 (hD:findF T.L n=none→∀R,RoomR S (tickT T) R→R.2=0→R.1.1.dk.down=false∧204+2 * n≤R.1.1.dk.size∧∃s,PlaceIs R.1.1.dk n s pq pt):
 Calls Tryz.prog 23 #[.pointer (some ⟨P,0,none⟩),.int .i64 (n:Nat)] w (FetchP bz P l p S T n pq pt w):=by
 have HIS:=qh (is_ok h (n:Int));rw[if_pos hin]at HIS;have c5:=h.blk.cell 5;have z5:=h.blk.frozen 5;simp only[qA,qZ,qS]at c5;obtain⟨ck,hck⟩:∃ck,T.clock+1=ck:=⟨_,rfl⟩;have hP1:=h.setBox 5 (.int .i64 ((T.clock+1:Nat):Int)) (T':=tickT T) rfl rfl rfl;rw[hck]at hP1;have HP1:=qh hP1;have HU1:=qh ((Upd.refl (PoolF bz w) w).setCell (p:=⟨P,5,none⟩) (fun _=>h.poolF) (.int .i64 (ck:Nat)))
 have HW1:=qh (hW.upd (Upd.one w P 5 (.int .i64 (ck:Nat))) fun e=>by
  have h1:=h.hP;have h2:=h.log.hz;omega)
 have hTT:PoB (tickT T):=⟨hT.pages,hT.most,hc,hT.len,hT.fr⟩;have HTT:=qh hTT;have HK:=qh hK;have HD:=qh hD;have hcw:IntKind.i64.wrap ((T.clock:Int)+1)=(ck:Int):=by rw[IntKind.wrap_i64];omega
 have hcw2:(T.clock:Int)+1=(ck:Int):=by omega
 have hc0:(T.clock:Int)≤1000:=by omega
 have HCK:Hid ((tickT T).clock=ck):=qh hck;have HPQ:=qh hpq;have HPT:=qh hpt;have hn20:n≤20:=by have h1:=hin.2;have h2:=hT.pages;omega
 have HN20:=qh hn20;have HHP:=qh h.hP;have HHZ:=qh h.log.hz;clear h hT hc hK hW hin hpq hpt hD hck hP1 hTT hn20;go_enter Tryz.func23,Tryz.ntmps23
 go_wp2_with fail
 refine HIS.out.mono ?_;rintro e w1 ⟨rfl,rfl⟩;go_upto_region 5 with(fail)
 clear c5 z5;obtain⟨w2,hw2⟩:∃w2,w1.setCell ⟨P,5,none⟩ (.int .i64 (ck:Nat))=w2:=⟨_,rfl⟩;rw[hw2]at HP1 HU1 HW1 ⊢;clear hw2 hcw hcw2 hc0;have c6:=HP1.out.blk.cell 6;simp only[qA,qZ,qS]at c6;have hlk:=HP1.out.look (n:Int);have hfl:findF (tickT T).L (n:Int)=findF T.L (n:Int):=rfl
 cases hf:findF T.L (n:Int) with
 | some q=>
   rw[hfl,hf]at hlk;simp only at hlk;obtain⟨hqm,hqn⟩:=findF_some hf;have hbd:=HTT.out.fr q hqm;obtain⟨x,b⟩:=q;obtain⟨A,c,f0,f1,f2,f3,f4,f5,f6,fz,hce⟩:=(HP1.out.fr (x,b) hqm).cells;obtain⟨m1,hm1⟩:∃m1,x.pins+1=m1:=⟨_,rfl⟩;simp only at f1 f6 hbd;have hta:=touch_at HP1.out (x:=x) (b:=b) hqm rfl;rw[HCK.out,hm1]at hta;have HTA:=qh hta;have hp1:(x.pins:Int)≤1000:=by omega
   have hw1:IntKind.i64.wrap ((x.pins:Int)+1)=(m1:Int):=by rw[IntKind.wrap_i64];omega
   have hw2:(x.pins:Int)+1=(m1:Int):=by omega
   have z1:=fz 1;have z6:=fz 6;have hblk:=HP1.out.blk.far (g:=P) (p:=⟨b,1,none⟩) (HP1.out.P_ne hqm) (.int .i64 (m1:Nat));have c5:=hblk.cell 5;simp only[qA,qZ,qS,HCK.out]at c5;have HF:=qh hf;have HLK:=qh hlk;unfold ptrF at HLK;simp only at HLK;clear hlk hfl hf hqm hqn hbd f0 f2 f3 f4 f5 fz hce hm1 hta hblk;go_wp2_with (refine wpList_lookup_run rfl _ _ _ _ rfl rfl rfl HLK.out ?_)
   go_ret;refine⟨fun q hq=> ?_,fun hn=> ?_⟩
   ·rw[HF.out]at hq
    cases hq;exact⟨p,rfl,rfl,HTA.out.1,HU1.out.pools HTA.out.2⟩
   ·rw[HF.out]at hn
    cases hn
 | none=>
   rw[hfl,hf]at hlk;simp only at hlk;have HLK:=qh hlk;have HF:=qh hf;have HDD:=qh (HD.out hf);have hrm:=room_ok HP1.out HTT.out HK.out HW1.out;have HRM:=qh hrm;clear hlk hfl hf hrm HD;go_wp2_with (refine wpList_lookup_run rfl _ _ _ _ rfl rfl rfl HLK.out ?_)
   refine HRM.out.mono ?_;rintro e w3 hrp;obtain⟨R,hR,p3,hpd,rfl,hP3,hU3⟩:=hrp.out;have HRR:=qh hR;obtain⟨L',hT',hL'⟩:=hR.rel;obtain⟨⟨S3,T3⟩,x3⟩:=R;simp only at hT' hP3 ⊢;have HT3:=qh hT';have HPD:=qh hpd;have HP3:=qh hP3;have HU3:=qh (HU1.out.pools hU3);have hfn:findF T3.L (n:Int)=none:=by rw[hT'];exact hL' _ HF.out
   have HFN:=qh hfn;have hck3:T3.clock=ck:=by rw[hT'];exact HCK.out
   have HCK3:=qh hck3;clear hrp hR hL' hT' hpd hP3 hU3 hfn hck3 c6;by_cases hx3:x3=0
   ·subst hx3;obtain⟨hdn,hdz,s,hpl⟩:=HDD.out _ HRR.out rfl;simp only at hdn hdz hpl;have c0:=HP3.out.blk.cell 0;have c2:=HP3.out.blk.cell 2;simp only[qA,qZ,qS,HPD.out]at c0 c2;have HX:=qh (show S3.dk.down=false∧204+2 * n≤S3.dk.size∧PlaceIs S3.dk n s pq pt from⟨hdn,hdz,hpl⟩)
    have HL1:=qh (sload_ok (w:=w3.drew) ((HP3.out.log.up (Upd.refl Nowhere w3).drew).dk) hdn n (by have:=HN20.out;omega) hdz hpl)
    have HL2:=qh (sload_ok (w:=(w3.alloc (.cells #[.int .i64 0,.slice none 0 0] 72)).drew) ((HP3.out.log.up ((Upd.refl Nowhere w3).alloc (.cells #[.int .i64 0,.slice none 0 0] 72)).drew).dk) hdn n (by have:=HN20.out;omega) hdz hpl)
    rw[HPD.out]at HL1 HL2;have hPlt:P<w3.heap.size:=HP3.out.blk.lt;have dd:w3.drew.cell? ⟨P,0,none⟩=some (.pointer (some ⟨p.d,0,none⟩))∧w3.drew.cell? ⟨P,2,none⟩=some (.int .i64 202):=⟨c0,c2⟩;have ee:∀X:World,Upd Nowhere w3 X→X.cell? ⟨P,0,none⟩=some (.pointer (some ⟨p.d,0,none⟩))∧X.cell? ⟨P,2,none⟩=some (.int .i64 202):=fun X hX=>⟨(hX.cell (p:=⟨P,0,none⟩) hPlt id).trans dd.1,(hX.cell (p:=⟨P,2,none⟩) hPlt id).trans dd.2⟩
    have EE:=qh ee;have d2:=ee _ (((Upd.refl Nowhere w3).alloc (.cells #[.int .i64 0,.slice none 0 0] 72)).drew:Upd Nowhere w3 (w3.alloc (.cells #[.int .i64 0,.slice none 0 0] 72)).drew);clear hdn hdz hpl c0 c2 ee;go_upto_region 10 with(fail)
    go_cut [8,9,10] (fun t8 t9 t10 wz=>∃(q8:Nat) (A8:Option Addr) (c8:Nat),t8= .pointer (some ⟨q8,0,none⟩)∧t9= .int .i64 (pt:Nat)∧t10= .int .i64 0∧Blk wz q8 72 #[.int .i64 (pq.lsn:Nat),.slice A8 pq.cells.length c8]∧Upd Nowhere w3 wz∧OwnC w3.heap.size wz (.slice A8 pq.cells.length c8) pq.cells)
    case first=>
     go_region_held3 (fun w'=>w'.cell? ⟨P,0,none⟩=some (.pointer (some ⟨p.d,0,none⟩))∧w'.cell? ⟨P,2,none⟩=some (.int .i64 202)) (first | with_reducible exact dd | with_reducible exact d2 | with_reducible exact k2 | with_reducible exact k3 | with_reducible exact k4 | with_reducible exact k5)
      (first
        | (go_at_call 33
           refine HL1.out.mono ?_;rintro e w4 ⟨A4,c4,rfl,hO4,hU4⟩;have hU4':Upd Nowhere w3 w4:=(Upd.refl Nowhere w3).drew.same hU4;have k2:=EE.out w4 hU4';have k3:=EE.out _ (hU4'.alloc (.cells #[.int .i64 0,.slice none 0 0] 72));have k4:=EE.out _ (hU4'.alloc (.cells #[.int .i64 (pq.lsn:Nat),.slice A4 pq.cells.length c4] 72));have HU4:=qh hU4';have HO4:=qh hO4;clear hU4 hU4' hO4)
        | (go_at_call 33
           refine HL2.out.mono ?_;rintro e w4 ⟨A4,c4,rfl,hO4,hU4⟩;have hU4':Upd Nowhere w3 w4:=(((Upd.refl Nowhere w3).alloc (.cells #[.int .i64 0,.slice none 0 0] 72)).drew:Upd Nowhere w3 (w3.alloc (.cells #[.int .i64 0,.slice none 0 0] 72)).drew).same hU4;have k2:=EE.out w4 hU4';have k5:=EE.out _ ((hU4'.setCell (p:=⟨w3.heap.size,0,none⟩) (fun h=>absurd h (Nat.lt_irrefl _)) (.int .i64 (pq.lsn:Nat))).setCell (p:=⟨w3.heap.size,1,none⟩) (fun h=>absurd h (Nat.lt_irrefl _)) (.slice A4 pq.cells.length c4))
           have hbq:=(Blk.new w3 72 #[.int .i64 0,.slice none 0 0]).drew.upd hU4 id;have z0:=hbq.cell 0;have z1:=hbq.cell 1;have y0:=hbq.frozen 0;have y1:=hbq.frozen 1;simp only[qA,qZ,qS]at z0 z1;have HBQ:=qh hbq;have HU4:=qh hU4';have HO4:=qh hO4;clear hU4 hU4' hbq hO4))
     ·go_wp2_with fail
      go_meet;exact⟨w4.heap.size,A4,c4,rfl,rfl,rfl,Blk.new _ _ _,HU4.out.alloc _,(HO4.out.alloc _:OwnC w3.heap.size _ _ _)⟩
     ·go_wp2_with fail
      go_meet;have hnb:∀k,(Value.slice A4 pq.cells.length c4).ownBlock=some k→w3.heap.size<k:=fun k hk=>by have:=HO4.out.new k hk;simp at this;omega
      have hbz:=(HBQ.out.set_ 0 (.int .i64 (pq.lsn:Nat))).set_ 1 (.slice A4 pq.cells.length c4);simp only[qsA,qsS,qsZ]at hbz;exact⟨w3.heap.size,A4,c4,rfl,rfl,rfl,hbz,(HU4.out.setCell (p:=⟨w3.heap.size,0,none⟩) (fun h=>absurd h (Nat.lt_irrefl _)) _).setCell (p:=⟨w3.heap.size,1,none⟩) (fun h=>absurd h (Nat.lt_irrefl _)) _,((HO4.out.far (B':=w3.heap.size) fun k hk=>Nat.le_of_lt (hnb k hk)).upd (Upd.one _ w3.heap.size 0 _) fun k hk e=>by have:=hnb k hk;omega).upd (Upd.one _ w3.heap.size 1 _) fun k hk e=>by have:=hnb k hk;omega⟩
    case rest=>
     obtain⟨q8,A8,c8,rfl,rfl,rfl,hb8,hu8,hO8⟩:=hcut;have hPc:=HP3.out.up hu8;obtain⟨wd,hwd⟩:∃wd,wc.alloc (.cells #[.int .i64 (n:Nat),.int .i64 0,.int .i64 0,.int .i64 (pt:Nat),.int .i64 (pq.lsn:Nat),.slice A8 pq.cells.length c8,.int .i64 0] 142)=wd:=⟨_,rfl⟩;have hud:Upd Nowhere wc wd:=by rw[←hwd];exact(Upd.refl _ _).alloc _
     have hfr:FrAt wd wc.heap.size (newFr n pq pt):=by
      rw[←hwd];exact⟨A8,c8,Blk.new _ _ _,(hO8.alloc _).cellsE⟩
     have hPd:=hPc.up hud
     have hbn:∀q∈T3.L,q.2≠wc.heap.size:=fun q hq e=>by
      obtain⟨_,_,hb,_⟩:=(hPc.fr q hq).ex;have:=hb.lt;omega
     have hPl:P<wc.heap.size:=hPc.blk.lt;obtain⟨we,hru,hPe,hue⟩:=hPd.add (x:=newFr n pq pt) (b:=wc.heap.size) HFN.out hfr hbn (by have:=hPd.hP;omega)
     have hmem:(newFr n pq pt,wc.heap.size)∈(addT T3 (newFr n pq pt) wc.heap.size).L:=qma.2 (.inr (List.mem_singleton.2 rfl));obtain⟨wf,hwf⟩:∃wf,(we.setCell ⟨wc.heap.size,1,none⟩ (.int .i64 1)).setCell ⟨wc.heap.size,6,none⟩ (.int .i64 (ck:Nat))=wf:=⟨_,rfl⟩
     have hta:=touch_at (w':=wf) hPe (x:=newFr n pq pt) (b:=wc.heap.size) hmem (by
      rw[←hwf]
      show _=((we.setCell ⟨wc.heap.size,1,none⟩ (.int .i64 ((0+1:Nat):Int))).setCell ⟨wc.heap.size,6,none⟩ (.int .i64 (T3.clock:Nat)))
      rw[HCK3.out];rfl)
     have HTA:=qh hta;have HWF:=qh hwf;have HRU:=qh hru;have HUE:Hid (Upd (PoolF bz w1) w1 we):=qh (HU3.out.pools ((hu8.same hud).any.trans (F:=PoolF bz w3) hue fun k hk e=>by subst e;exact HP3.out.fmF))
     obtain⟨_,_,g0,g1,g2,g3,g4,g5,g6,gz,_⟩:=(hPe.fr _ hmem).cells;have g1':we.cell? ⟨wc.heap.size,1,none⟩=some (.int .i64 0):=g1;have y1:=gz 1;have y6:=gz 6;have c6:=hPd.blk.cell 6;have hPF:=hPe.blk.far (g:=P) (p:=⟨wc.heap.size,1,none⟩) (by simp only;omega) (.int .i64 1)
     have c5:=hPF.cell 5;have hcc:(addT T3 (newFr n pq pt) wc.heap.size).clock=ck:=HCK3.out;have r0:=hb8.cell 0;have r1:=hb8.cell 1;simp only[qA,qZ,qS,hcc]at c6 c5 r0 r1;have g6':we.cell? ⟨wc.heap.size,6,none⟩=some (.int .i64 0):=g6;have HBX:=qh (show bz≤wc.heap.size by have:=hPd.hP;omega)
     clear hPc hud hfr hPd hbn hPe hta hwf hru hue hmem g0 g1 g2 g3 g4 g5 g6 gz hPF hcc hb8 hu8 hO8 dd d2 hPl;go_upto_region 14 with(fail)
     obtain⟨bN,hbN⟩:∃bN,wc.heap.size=bN:=⟨_,rfl⟩;rw[hbN]at HTA HWF HRU c5 g1' g6' y1 y6 ⊢;clear hwd;have hn':((newFr n pq pt).no:Int)=(n:Int):=rfl;have HRU':Hid ((Instr.mapUpdate 137 (.map (some T3.fm)) (.int .i64 (n:Nat)) (.pointer (some ⟨bN,0,none⟩))).run Tryz.prog wd= .ok () we):=HRU;clear hn' HRU;go_wp2_with (refine wpList_update_run rfl _ _ _ _ rfl rfl rfl rfl HRU'.out ?_)
     go_ret;refine⟨fun q hq=> ?_,fun _=>⟨_,HRR.out,fun h=>absurd rfl h,fun _=>⟨bN,p3,HPD.out,rfl,?_,?_⟩⟩⟩
     ·rw[HF.out]at hq
      cases hq
     ·rw[HWF.out];exact HTA.out.1
     ·rw[HWF.out];exact HUE.out.pools HTA.out.2
   ·have hxb:(x3 == 0)=false:=by simpa using hx3
    have HX3:=qh hx3;clear hx3;go_wp2_with fail
    go_ret;refine⟨fun q hq=> ?_,fun _=>⟨_,HRR.out,fun _=>⟨p3,HPD.out,rfl,HP3.out,HU3.out⟩,fun h=>absurd h HX3.out⟩⟩
    rw[HF.out]at hq
    cases hq
end
end Go.Proofs.YtdfccegeihfdpaaGreatDoor
