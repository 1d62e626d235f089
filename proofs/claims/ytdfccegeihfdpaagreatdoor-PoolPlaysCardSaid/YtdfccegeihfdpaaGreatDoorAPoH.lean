/-
  The pool's calls, told by what it holds to.
-/
import Derived.Test.YtdfccegeihfdpaaGreatDoorAPoG
import Derived.Test.YtdfccegeihfdpaaGreatDoorAPuB
import Derived.Test.YtdfccegeihfdpaaGreatDoorAPgT
namespace Go.Proofs.YtdfccegeihfdpaaGreatDoor
open Go Go.RowKit
def pinsP(L:List FrB)(n:Nat):Nat:=match findF L (n:Nat) with
 | some q=>q.1.pins
 | none=>0
theorem pinsP_upd(L:List FrB)(x:FrP)(n:Nat)(hx:findF L (x.no:Nat)≠none):pinsP (updF L x) n=if n=x.no then x.pins else pinsP L n:=by
 unfold pinsP;rw[findF_upd];by_cases e:n=x.no
 ·rw[if_pos e];subst e
  cases hf:findF L (x.no:Nat) with
  | none=>exact absurd hf hx
  | some r=>
    have:=(findF_some hf).2
    show(if r.1.no=x.no then (x,r.2) else r).1.pins=x.pins
    rw[if_pos (by omega)]
 ·rw[if_neg e]
  cases hf:findF L (n:Nat) with
  | none=>rfl
  | some r=>
    have:=(findF_some hf).2
    show(if r.1.no=x.no then (x,r.2) else r).1.pins=r.1.pins
    rw[if_neg (by omega)]
theorem pinsP_of{L:List FrB}(hn:(L.map (·.1.no)).Nodup){q:FrB}(hq:q∈L):pinsP L q.1.no=q.1.pins:=by
 unfold pinsP;rw[findF_of hn hq]
theorem pinsP_back{L:List FrB}(hn:(L.map (·.1.no)).Nodup){q:FrB}(hq:q∈L)(n:Nat):pinsP (backL L q.1) n=pinsP L n:=by
 unfold backL;split
 ·rfl
 ·rw[pinsP_upd _ _ _ (by show findF L (q.1.no:Nat)≠none;rw[findF_of hn hq];simp)]
  split
  ·rename_i e
   have e:n=q.1.no:=e;rw[e,pinsP_of hn hq]
  ·rfl
theorem pinsP_rem(L:List FrB)(n m:Nat)(h:pinsP L n=0):pinsP (remF L n) m=pinsP L m:=by
 unfold pinsP at*;rw[findF_rem];by_cases e:m=n
 ·subst e;rw[if_pos rfl,h]
 ·rw[if_neg (by omega)]
def VP(L:List FrB):List (Nat×Nat):=L.map fun q=>(q.1.no,q.1.pins)
def pinV1(n:Nat)(f:Nat→Nat)(V:List (Nat×Nat)):List (Nat×Nat):=V.map fun v=>if v.1=n then (v.1,f v.2) else v
theorem VP_upd(L:List FrB)(x:FrP)(f:Nat→Nat)(h:∀q∈L,q.1.no=x.no→x.pins=f q.1.pins):VP (updF L x)=pinV1 x.no f (VP L):=by
 unfold VP updF pinV1;rw[List.map_map,List.map_map];refine List.map_congr_left fun q hq=> ?_
 simp only[Function.comp];by_cases e:q.1.no=x.no
 ·rw[if_pos e,if_pos e,e,h q hq e]
 ·rw[if_neg e,if_neg e]
theorem pinV1_id(n:Nat)(V:List (Nat×Nat)):pinV1 n (fun p=>p) V=V:=by
 unfold pinV1
 conv=>rhs;rw[←List.map_id V]
 refine List.map_congr_left fun v _=> ?_
 split<;>rfl
theorem VP_back{L:List FrB}(hn:(L.map (·.1.no)).Nodup){q:FrB}(hq:q∈L):VP (backL L q.1)=VP L:=by
 unfold backL;split
 ·rfl
 ·rw[VP_upd _ _ (fun p=>p) fun r hr e=> ?_,pinV1_id];rw[nos_inj hn hr hq e]
theorem VP_rem(L:List FrB)(n:Nat):VP (remF L n)=(VP L).filter fun v=>decide (v.1≠n):=by
 unfold VP remF;rw[List.filter_map];rfl
def FetV(n most:Nat)(L L':List FrB)(x:Int):Prop:=
 (x=0∧findF L (n:Nat)≠none∧VP L'=pinV1 n (·+1) (VP L))∨
 (x=0∧findF L (n:Nat)=none∧L.length<most∧VP L'=VP L++[(n,1)])∨
 (x=0∧findF L (n:Nat)=none∧L.length=most∧∃q∈L,q.1.pins=0∧VP L'=((VP L).filter fun v=>decide (v.1≠q.1.no))++[(n,1)])∨
 (x=120∧findF L (n:Nat)=none∧L.length=most∧(∀q∈L,q.1.pins≠0)∧VP L'=VP L)
section
variable {e0 pages c:Nat} {S:LogS} {T:PoS} {M:DkM}
theorem PoI.room_pins(h:PoI e0 pages c S T M)(hc:c≤996){R:(LogS×PoS)×Int}(hR:RoomR S T R)(n:Nat):pinsP R.1.2.L n=pinsP T.L n:=by
 rcases hR with⟨h1,rfl⟩ | ⟨h1,h2,rfl⟩ | ⟨h1,q,hq,rfl⟩
 ·rfl
 ·rfl
 ·obtain⟨g1,g2,g3,g4,g5,g6⟩:=h.ev hc hq.mem;rw[g2]
  show pinsP (remF (backL T.L q.1) q.1.no) n=_
  rw[pinsP_rem _ _ _ (by rw[pinsP_back h.nos hq.mem,pinsP_of h.nos hq.mem];exact hq.pins),pinsP_back h.nos hq.mem]
theorem PoI.room_view(h:PoI e0 pages c S T M)(hc:c≤996){R:(LogS×PoS)×Int}(hR:RoomR S T R):(T.L.length<T.most∧R.2=0∧VP R.1.2.L=VP T.L)∨(T.L.length=T.most∧R.2=120∧(∀q∈T.L,q.1.pins≠0)∧VP R.1.2.L=VP T.L)∨(T.L.length=T.most∧R.2=0∧∃q∈T.L,q.1.pins=0∧VP R.1.2.L=(VP T.L).filter fun v=>decide (v.1≠q.1.no)):=by
 have hl:=h.len
 rcases hR with⟨h1,rfl⟩ | ⟨h1,h2,rfl⟩ | ⟨h1,q,hq,rfl⟩
 ·exact .inl ⟨h1,rfl,rfl⟩
 ·exact .inr (.inl ⟨by omega,rfl,h2,rfl⟩)
 ·obtain⟨g1,g2,_⟩:=h.ev hc hq.mem;refine .inr (.inr ⟨by omega,g1,q,hq.mem,hq.pins,?_⟩)
  rw[g2]
  show VP (remF (backL T.L q.1) q.1.no)=_
  rw[VP_rem,VP_back h.nos hq.mem]
theorem touch_view{T:PoS}(hn:(T.L.map (·.1.no)).Nodup){q:FrB}(hq:q∈T.L):VP (touchT T q).L=pinV1 q.1.no (·+1) (VP T.L):=by
 unfold touchT
 show VP (updF T.L _)=_
 rw[VP_upd _ _ (·+1) fun r hr e=> ?_]
 show q.1.pins+1=r.1.pins+1
 rw[nos_inj hn hr hq e]
theorem PoI.unpin_view(h:PoI e0 pages c S T M)(n:Nat){q:FrB}(hp:pinS T (n:Nat)= .ok q):VP (unpinS T (n:Nat)).1.L=pinV1 n (· - 1) (VP T.L):=by
 obtain⟨hq,hn,hz,hf⟩:=pinS_ok hp;unfold unpinS;rw[hp]
 show VP (updF T.L _)=_
 rw[VP_upd _ _ (· - 1) fun r hr e=>by rw[nos_inj h.nos hr hq e]]
 show pinV1 q.1.no _ _=_
 rw[show q.1.no=n by omega]
theorem PoI.unpin(h:PoI e0 pages c S T M)(n:Int):PoI e0 pages c S (unpinS T n).1 M∧(∀m,curP (unpinS T n).1.L M m=curP T.L M m):=by
 unfold unpinS
 cases hp:pinS T n with
 | error e=>exact⟨h,fun _=>rfl⟩
 | ok q=>
   obtain⟨hq,hn,hz,hf⟩:=pinS_ok hp;obtain⟨f1,f2,f3,f4,f5,f6⟩:=h.fr q hq;refine⟨h.upd hq (x:={ q.1 with pins:=q.1.pins - 1 }) rfl ⟨by show q.1.pins - 1≤c;omega,f3,f4,f5,f6⟩,fun m=> ?_⟩
   show curP (updF T.L _) M m=_
   rw[curP_upd _ _ (by show findF T.L (q.1.no:Nat)≠none;rw[h.find hq];simp)]
   split
   ·rename_i e
    have e:m=q.1.no:=e;rw[e,curP_in h hq];rfl
   ·rfl
theorem PoI.pinS_of(h:PoI e0 pages c S T M){n:Nat}(hn:n<pages)(hp:pinsP T.L n≠0):∃q,pinS T (n:Nat)= .ok q∧q∈T.L∧q.1.no=n:=by
 unfold pinsP at hp
 cases hf:findF T.L (n:Nat) with
 | none=>rw[hf]at hp;exact absurd rfl hp
 | some q=>
   rw[hf]at hp;refine⟨q,?_,(findF_some hf).1,by have:=(findF_some hf).2;omega⟩
   unfold pinS;rw[if_pos ⟨by omega,by rw[h.pgs];omega⟩,hf]
   simp only;rw[if_neg hp]
theorem PoI.unpin_pins(h:PoI e0 pages c S T M){n:Nat}(hn:n<pages)(hp:pinsP T.L n≠0):(unpinS T (n:Nat)).2=0∧∀m,pinsP (unpinS T (n:Nat)).1.L m=if m=n then pinsP T.L n - 1 else pinsP T.L m:=by
 obtain⟨q,hq,hm,he⟩:=h.pinS_of hn hp;unfold unpinS;rw[hq];refine⟨rfl,fun m=> ?_⟩
 show pinsP (updF T.L _) m=_
 rw[pinsP_upd _ _ _ (by show findF T.L (q.1.no:Nat)≠none;rw[h.find hm];simp)]
 show(if m=q.1.no then q.1.pins - 1 else _)=_
 rw[←pinsP_of h.nos hm,he]
theorem PoI.change(h:PoI e0 pages c S T M)(n:Int){lsn:Nat}{key:Ky}{v:Vl}(h1:1≤lsn)(hl:lsn≤S.items.length+e0)(hl2:lsn≤1099511627776)(hk:CellOK (key,v)):PoI e0 pages c S (changeS T n lsn key v).1 M∧(∀m,pinsP (changeS T n lsn key v).1.L m=pinsP T.L m)∧((changeS T n lsn key v).2≠0→(changeS T n lsn key v).1=T)∧(∀q,pinS T n= .ok q→(changeS T n lsn key v).2=(if roomB q.1.cells key then 0 else 100)∧((changeS T n lsn key v).2=0→∀m,curP (changeS T n lsn key v).1.L M m=if m=q.1.no then (q.1.pg.set lsn key v) else curP T.L M m)):=by
 unfold changeS
 cases hp:pinS T n with
 | error e=>exact⟨h,fun _=>rfl,fun _=>rfl,fun q hq=>(by cases hq)⟩
 | ok q=>
   obtain⟨hq,hn,hz,hf⟩:=pinS_ok hp;obtain⟨f1,f2,f3,f4,f5,f6⟩:=h.fr q hq;by_cases hr:roomB q.1.cells key=true
   ·simp only[hr,if_true];have hok:(q.1.pg.set lsn key v).ok:=PgP.set_ok f3 hl2 hk ((roomB_iff _ _).1 hr);have hfn:findF T.L (q.1.no:Nat)≠none:=by rw[h.find hq];simp
    refine⟨h.upd hq (x:={ q.1 with lsn:=lsn,cells:=setC q.1.cells key v,rc:=if q.1.rc=0 then lsn else q.1.rc }) rfl ⟨f2,hok,f4,fun e=> ?_,hl⟩,fun m=> ?_,fun e=>absurd rfl e,fun r hr2=> ?_⟩
    ·have e:(if q.1.rc=0 then lsn else q.1.rc)=0:=e
     split at e<;>omega
    ·show pinsP (updF T.L _) m=_
     rw[pinsP_upd _ _ _ (by exact hfn)]
     by_cases e:m=q.1.no
     ·rw[if_pos (by exact e),e,pinsP_of h.nos hq]
     ·rw[if_neg (by exact e)]
    ·injection hr2 with hr2
     subst hr2;refine⟨by rw[if_pos hr],fun _ m=> ?_⟩
     show curP (updF T.L _) M m=_
     rw[curP_upd _ _ (by exact hfn)]
     rfl
   ·have hr':roomB q.1.cells key=false:=by simpa using hr
    simp only[hr'];refine⟨h,fun _=>rfl,fun _=>rfl,fun r hr2=> ?_⟩
    injection hr2 with hr2
    subst hr2;refine⟨by rw[hr'];rfl,fun e=>by simp at e⟩
theorem PoI.append(h:PoI e0 pages c S T M){b:Bs}(hb:b.length≤200)(hr:S.roomy b 0=true):PoI e0 pages (c+1) (S.add b) T M:=
 ⟨h.lg.add hb hr,h.pgs,h.p20,h.m20,h.m1,by have:=h.clk;omega,h.len,h.nos,h.place,fun n=>by have:=h.turn n;omega,h.ahead,fun q hq=>by
  obtain⟨a1,a2,a3,a4,a5,a6⟩:=h.fr q hq;exact⟨a1,by omega,a3,a4,a5,by simp only[LogS.add,qla,qls];omega⟩⟩
end
structure PSt(bz P l d e0 pages most c:Nat)(w:World)(p:DkP)(S:LogS)(T:PoS)(M:DkM):Prop where
 at_:PoolAt bz w P p l S T
 inv:PoI e0 pages c S T M
 half:HalfW w
 mst:T.most=most
 pd:p.d=d
theorem HalfW.pools{bz:Nat}{w w':World}(hz:0<bz)(hW:HalfW w)(hu:Upd (PoolF bz w) w w'):HalfW w':=hW.upd hu fun e=>by have:=e.1;omega
section
variable {bz P l d e0 pages most c:Nat} {w:World} {p:DkP} {S:LogS} {T:PoS} {M:DkM}
theorem PSt.up(h:PSt bz P l d e0 pages most c w p S T M){w':World}(hu:Upd Nowhere w w'):PSt bz P l d e0 pages most c w' p S T M:=
 ⟨h.at_.up hu,h.inv,h.half.upd hu id,h.mst,h.pd⟩
theorem PSt.upd(h:PSt bz P l d e0 pages most c w p S T M){F:Nat→Prop}{w':World}(hu:Upd F w w')(hF:∀k,F k→bz≤k∧¬PoolF bz w k)(h8:NoU8 F w)(hC:NoC F w):PSt bz P l d e0 pages most c w' p S T M:=
 ⟨h.at_.upd hu (fun k hk=>(hF k hk).2) h8 hC,h.inv,h.half.upd hu (fun e=>by have:=(hF _ e).1;have:=h.at_.log.hz;omega),h.mst,h.pd⟩
theorem PSt.mono(h:PSt bz P l d e0 pages most c w p S T M){c':Nat}(hc:c≤c'):PSt bz P l d e0 pages most c' w p S T M:=⟨h.at_,h.inv.mono hc,h.half,h.mst,h.pd⟩
structure FetK(n most:Nat)(T T':PoS)(M M':DkM)(x:Int):Prop where
 cur:∀m,curP T'.L M' m=curP T.L M m
 view:FetV n most T.L T'.L x
 code:(x=0∧∀m,pinsP T'.L m=if m=n then pinsP T.L n+1 else pinsP T.L m)∨(x=120∧T.L.length=most∧(∀q∈T.L,q.1.pins≠0)∧∀m,pinsP T'.L m=pinsP T.L m)
theorem touch_pins{T:PoS}(hn:(T.L.map (·.1.no)).Nodup){q:FrB}(hq:q∈T.L)(m:Nat):pinsP (touchT T q).L m=if m=q.1.no then pinsP T.L q.1.no+1 else pinsP T.L m:=by
 unfold touchT
 show pinsP (updF T.L _) m=_
 rw[pinsP_upd _ _ _ (by show findF T.L (q.1.no:Nat)≠none;rw[findF_of hn hq];simp)]
 show(if m=q.1.no then q.1.pins+1 else _)=_
 rw[pinsP_of hn hq]
theorem fetchK(h:PSt bz P l d e0 pages most c w p S T M)(hc:c≤990)(n:Nat)(hn:n<pages):Calls Tryz.prog 23 #[.pointer (some ⟨P,0,none⟩),.int .i64 (n:Nat)] w fun e w'=>∃p' S' T' M' x,e= .returned (.int .i64 x)∧PSt bz P l d e0 pages most (c+4) w' p' S' T' M'∧Upd (PoolF bz w) w w'∧FetK n most T T' M M' x:=by
 have hclk:=h.inv.clk;have htr:=h.inv.turn n;obtain⟨s0,hs0⟩:=h.inv.place n hn;have hin:inT T (n:Int):=⟨by omega,by rw[h.inv.pgs];omega⟩
 have hf:=fetch_ok h.at_ (h.inv.bounds (by omega)) (by omega) (h.inv.tick.keep (by omega)) h.half n hin (M n).1 (M n).2 hs0.page_ok.1 (by omega) fun hno R hR h0=>by
  obtain⟨M',g1,g2,g3,g4,g5,g6,g7,g8⟩:=h.inv.tick.room (by omega) hR
  obtain⟨_,hM⟩:=g6 n hno;obtain⟨sy,hd,_⟩:=g1.lg.dk;obtain⟨s,hs⟩:=g1.place n hn;rw[hM]at hs;exact⟨hd.down,by rw[hd.size];omega,s,hs⟩
 refine hf.mono ?_;rintro e w' ⟨hA,hB⟩;have half:∀{w'},Upd (PoolF bz w) w w'→HalfW w':=fun hu=>HalfW.pools h.at_.log.hz h.half hu
 cases hfd:findF T.L (n:Nat) with
 | some q=>
   obtain⟨hq,hqn⟩:=findF_some hfd;obtain⟨p',hpd,rfl,hP,hu⟩:=hA q hfd;have hI:=h.inv.tick.touch (q:=q) hq
   have hview:VP (touchT (tickT T) q).L=pinV1 n (·+1) (VP T.L):=by
    have e2:q.1.no=n:=by omega
    rw[←e2];exact touch_view (T:=tickT T) h.inv.nos hq
   refine⟨p',_,_,M,_,rfl,⟨hP,hI.1.mono (by omega),half hu,h.mst,hpd.trans h.pd⟩,hu,⟨fun m=>hI.2 m,.inl ⟨rfl,by rw[hfd];simp,hview⟩,.inl ⟨rfl,fun m=> ?_⟩⟩⟩
   have e2:q.1.no=n:=by omega
   rw[←e2];exact touch_pins (T:=tickT T) h.inv.nos hq m
 | none=>
   obtain⟨R,hR,hR1,hR2⟩:=hB hfd;obtain⟨M',g1,g2,g3,g4,g5,g6,g7,g8⟩:=h.inv.tick.room (by omega) hR
   have gp:=h.inv.tick.room_pins (by omega) hR
   obtain⟨gn,gM⟩:=g6 n hfd;by_cases h0:R.2=0
   ·obtain⟨b,p',hpd,rfl,hP,hu⟩:=hR2 h0;rw[←gM]at hP;have ha:=g1.add (g4 h0) (b:=b) hn gn;have hmem:(newFr n (M' n).1 (M' n).2,b)∈(addT R.1.2 (newFr n (M' n).1 (M' n).2) b).L:=qma.2 (.inr (List.mem_singleton.2 rfl));have ht:=ha.1.touch hmem;refine⟨p',_,_,M',_,rfl,⟨hP,ht.1.mono (by omega),half hu,by show R.1.2.most=_;rw[g8];exact h.mst,hpd.trans h.pd⟩,hu,⟨fun m=> ?_,?_,.inl ⟨rfl,fun m=> ?_⟩⟩⟩
    ·rw[ht.2,ha.2,g2];rfl
    ·have hva:VP (touchT (addT R.1.2 (newFr n (M' n).1 (M' n).2) b) (newFr n (M' n).1 (M' n).2,b)).L=VP R.1.2.L++[(n,1)]:=by
      rw[touch_view ha.1.nos hmem]
      show pinV1 n _ (VP (R.1.2.L++[_]))=_
      unfold VP;rw[List.map_append];unfold pinV1;rw[List.map_append]
      congr 1
      ·conv=>rhs;rw[←List.map_id (R.1.2.L.map _)]
       refine List.map_congr_left fun v hv=> ?_
       obtain⟨r,hr,rfl⟩:=List.mem_map.1 hv;have:=findF_none gn r hr;rw[if_neg (by show ¬r.1.no=n;omega)]
       rfl
      ·simp[newFr]
     rcases h.inv.tick.room_view (by omega) hR with⟨v1,v2,v3⟩ | ⟨v1,v2,_⟩ | ⟨v1,v2,r,hr,v3,v4⟩
     ·exact .inr (.inl ⟨rfl,hfd,by have:=h.mst;have:T.L.length<T.most:=v1;omega,by rw[hva,v3];rfl⟩)
     ·rw[h0]at v2;cases v2
     ·exact .inr (.inr (.inl ⟨rfl,hfd,by have:=h.mst;have:T.L.length=T.most:=v1;omega,r,hr,v3,by rw[hva,v4];rfl⟩))
    ·rw[touch_pins ha.1.nos hmem]
     have hpa:∀k,pinsP (addT R.1.2 (newFr n (M' n).1 (M' n).2) b).L k=pinsP T.L k:=fun k=>by
      rw[←show pinsP R.1.2.L k=pinsP T.L k from gp k];unfold pinsP addT;simp only;rw[findF_add _ _ _ (by exact gn)]
      by_cases e:k=n
      ·subst e;rw[if_pos (by rfl),gn]
       rfl
      ·rw[if_neg (by show ¬(k:Int)=(n:Nat);omega)]
     rw[hpa,hpa];rfl
   ·obtain⟨p',hpd,rfl,hP,hu⟩:=hR1 h0;have h12:R.2=120:=by rcases g3 with e | e;exact absurd e h0;exact e
    obtain⟨k1,k2⟩:=g5 h12;refine⟨p',_,_,M',_,rfl,⟨hP,g1.mono (by omega),half hu,by rw[g8];exact h.mst,hpd.trans h.pd⟩,hu,⟨fun m=>g2 m,?_,.inr ⟨h12,k1.trans h.mst,k2,fun m=>gp m⟩⟩⟩
    rcases h.inv.tick.room_view (by omega) hR with⟨v1,v2,v3⟩ | ⟨v1,v2,_,v3⟩ | ⟨v1,v2,r,hr,v3,v4⟩
    ·exact absurd v2 h0
    ·exact .inr (.inr (.inr ⟨h12,hfd,k1.trans h.mst,k2,v3⟩))
    ·exact absurd v2 h0
theorem unpinK(h:PSt bz P l d e0 pages most c w p S T M)(hc:c≤990)(n:Int):Calls Tryz.prog 29 #[.pointer (some ⟨P,0,none⟩),.int .i64 n] w fun e w'=>e= .returned (.int .i64 (unpinS T n).2)∧PSt bz P l d e0 pages most c w' p S (unpinS T n).1 M∧Upd (PoolF bz w) w w':=by
 refine(unpin_ok h.at_ (h.inv.bounds (by omega)) n).mono ?_
 rintro e w' ⟨rfl,hP,hu⟩;refine⟨rfl,⟨hP,(h.inv.unpin n).1,HalfW.pools h.at_.log.hz h.half hu,?_,h.pd⟩,hu⟩;unfold unpinS;split<;>exact h.mst
theorem changeK(h:PSt bz P l d e0 pages most c w p S T M)(hc:c≤990)(he:e0≤1000)(n:Int)(lsn:Nat)(h1:1≤lsn)(hl:lsn≤S.items.length+e0)(key:Ky)(vh:Bool)(vd:Bs)(hk:CellOK (key,(vh,vd))):Calls Tryz.prog 25 #[.pointer (some ⟨P,0,none⟩),.int .i64 n,.int .i64 (lsn:Nat),strV key,.agg #[.bool vh,strV vd]] w fun e w'=>e= .returned (.int .i64 (changeS T n lsn key (vh,vd)).2)∧PSt bz P l d e0 pages most c w' p S (changeS T n lsn key (vh,vd)).1 M∧Upd (PoolF bz w) w w':=by
 have hil:=h.inv.lg.len;refine(change_ok h.at_ (h.inv.bounds (by omega)) n lsn h1 (by omega) key vh vd hk).mono ?_
 rintro e w' ⟨rfl,hP,hu⟩;refine⟨rfl,⟨hP,(h.inv.change n h1 hl (by omega) hk).1,HalfW.pools h.at_.log.hz h.half hu,?_,h.pd⟩,hu⟩
 unfold changeS;split
 ·exact h.mst
 ·split<;>exact h.mst
structure AppK(bz P l d e0 pages most c:Nat)(p:DkP)(S:LogS)(T:PoS)(M:DkM)(k x:Int)(w':World):Prop where
 code:x=0∨x=90
 out:x=90→k=0∧PSt bz P l d e0 pages most c w' p S T M
 in_:x=0→∃S',k=(S'.items.length:Nat)∧S'.items.length=S.items.length+1∧S'.forced=S.forced∧PSt bz P l d e0 pages most (c+1) w' p S' T M
theorem appendK(h:PSt bz P l d e0 pages most c w p S T M)(hc:c≤990)(key:Bs)(vh:Bool)(vd:Bs)(hk:CellOK (key,(vh,vd))):Calls Tryz.prog 24 #[.pointer (some ⟨l,0,none⟩),.agg (updA key vh vd),.int .i64 0] w fun e w'=>∃k x,e= .returned (.tuple #[.int .i64 k,.int .i64 x])∧AppK bz P l d e0 pages most c p S T M k x w'∧Upd (PoolF bz w) w w':=by
 have hb:=updP_len hk;have ha:=append_ok h.at_.log (h.inv.lg.bounds h.inv.p20 (by omega)) (by omega) h.inv.lg.dwn h.half (enc_upd hk w) (by omega) (fun _=>dec_upd_any hk) 0 (by omega)
 rw[updA_eq]at ha;refine ha.mono ?_;rintro e w' ⟨_,h2,h3,hu⟩;have hup:=hu.log_pool;have hW:=HalfW.pools h.at_.log.hz h.half hup;by_cases hr:S.roomy (updP key vh vd).bytes 0=true
 ·obtain⟨rfl,hL⟩:=h3 rfl hr;refine⟨_,_,rfl,⟨.inl rfl,(fun e=>by cases e),fun _=>⟨S.add (updP key vh vd).bytes,?_,?_,rfl,⟨h.at_.logs hL rfl hu,h.inv.append (by omega) hr,hW,h.mst,h.pd⟩⟩⟩,hup⟩
  ·rw[h.inv.lg.mst];simp only[LogS.add,qla,qls,mast2];omega
  ·simp only[LogS.add,qla,qls]
 ·obtain⟨rfl,hL⟩:=h2 rfl (by simpa using hr)
  exact⟨_,_,rfl,⟨.inr rfl,fun _=>⟨rfl,⟨h.at_.logs hL rfl hu,h.inv,hW,h.mst,h.pd⟩⟩,fun e=>by cases e⟩,hup⟩
end
theorem begK{w:World}{pages most x:Nat}{w':World}(hW:HalfW w)(h1:1≤pages∧pages≤20)(h2:1≤most∧most≤20)(h:BegP pages most w x w'):∃P l q d p S T,Blk w' x 65 #[.pointer (some ⟨d,0,none⟩),.pointer (some ⟨l,0,none⟩),.pointer (some ⟨P,0,none⟩),.pointer (some ⟨q,0,none⟩)]∧PSt w.heap.size P l d 0 pages most 0 w' p S T (fun _=>(pg0,0))∧T.L=[]∧S.items=[]∧S.forced=0∧RefNew w.heap.size w' q pages most:=by
 obtain⟨P,l,q,fm,p,hb,hP,hR⟩:=h.ex;refine⟨P,l,q,p.d,p,_,_,hb,⟨hP,⟨PLg.start pages,rfl,h1.2,h2.2,h2.1,qlr _,Nat.zero_le _,List.nodup_nil,fun n hn=>⟨_,PlaceIs.fresh fun k hk=>disk2_quiet _ k hk⟩,fun _=>qlr _,fun _=>Nat.zero_le _,fun q hq=>(by cases hq)⟩,hW.upd h.upd id,rfl,rfl⟩,rfl,rfl,rfl,hR⟩
end Go.Proofs.YtdfccegeihfdpaaGreatDoor
