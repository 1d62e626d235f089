/-
  What ties the program's pool to the document's (plain Lean, no program in sight, but the frames' row). Flush, Evict, Fetch of the program's pool, told exactly: pages on the disk, what is forced, the frames in their order. The two pools side by side: a call of the program's, and the document's answer to the same call.
-/
import Derived.Test.YtdfccegeihfdpaaGreatDoorARfL
set_option maxRecDepth 100000
set_option maxHeartbeats 2000000
namespace Go.Proofs.YtdfccegeihfdpaaGreatDoor
open Go Go.RowKit
structure AtI(T:PoS):Prop where
 nd:(T.L.map (·.1.at_)).Nodup
 le:∀r∈T.L,r.1.at_≤T.clock
theorem at_inj{K:List FrB}(hn:(K.map (·.1.at_)).Nodup){q r:FrB}(hq:q∈K)(hr:r∈K)(h:q.1.at_=r.1.at_):q=r:=by
 induction K with
 | nil=>cases hq
 | cons a K ih=>
   rw[List.map_cons,List.nodup_cons]at hn
   rcases qmc.1 hq with e1 | hq2<;>rcases qmc.1 hr with e2 | hr2
   ·rw[e1,e2]
   ·exact absurd (List.mem_map.2 ⟨r,hr2,by rw[←h,e1]⟩) hn.1
   ·exact absurd (List.mem_map.2 ⟨q,hq2,by rw[h,e2]⟩) hn.1
   ·exact ih hn.2 hq2 hr2
theorem IsOld.one{T:PoS}(hA:AtI T){q r:FrB}(hq:IsOld T.L q)(hr:IsOld T.L r):q=r:=
 at_inj hA.nd hq.mem hr.mem (Nat.le_antisymm (hq.least r hr.mem hr.pins) (hr.least q hq.mem hq.pins))
theorem upd_at{K:List FrB}(hn:(K.map (·.1.no)).Nodup){q:FrB}(hq:q∈K){x:FrP}(hx:x.no=q.1.no)(ha:x.at_=q.1.at_):(updF K x).map (·.1.at_)=K.map (·.1.at_):=by
 unfold updF;rw[List.map_map];refine List.map_congr_left fun r hr=> ?_
 simp only[Function.comp];by_cases e:r.1.no=x.no
 ·rw[if_pos e];have:r=q:=nos_inj hn hr hq (by omega)
  rw[this];exact ha
 ·rw[if_neg e]
theorem AtI.same{T:PoS}(h:AtI T){K:List FrB}(hK:K.map (·.1.at_)=T.L.map (·.1.at_)):AtI { T with L:=K }:=
 ⟨by show(K.map (·.1.at_)).Nodup;rw[hK];exact h.nd,fun r hr=>by
  have:r.1.at_∈K.map (·.1.at_):=List.mem_map.2 ⟨r,hr,rfl⟩;rw[hK]at this;obtain⟨s,hs,e⟩:=List.mem_map.1 this;rw[←e];exact h.le s hs⟩
theorem AtI.upd{T:PoS}(h:AtI T)(hn:(T.L.map (·.1.no)).Nodup){q:FrB}(hq:q∈T.L){x:FrP}(hx:x.no=q.1.no)(ha:x.at_=q.1.at_):AtI { T with L:=updF T.L x }:=h.same (upd_at hn hq hx ha)
theorem AtI.back{T:PoS}(h:AtI T)(hn:(T.L.map (·.1.no)).Nodup){q:FrB}(hq:q∈T.L):AtI { T with L:=backL T.L q.1 }:=by
 unfold backL;split
 ·exact h
 ·exact h.upd hn hq rfl rfl
theorem AtI.rem{T:PoS}(h:AtI T)(n:Nat):AtI { T with L:=remF T.L n }:=
 ⟨h.nd.sublist (List.Sublist.map _ List.filter_sublist),fun r hr=>h.le r (List.mem_filter.1 hr).1⟩
theorem AtI.tick{T:PoS}(h:AtI T):AtI (tickT T):=⟨h.nd,fun r hr=>Nat.le_succ_of_le (h.le r hr)⟩
theorem AtI.touch{T:PoS}(h:AtI T)(hn:(T.L.map (·.1.no)).Nodup)(q:FrB):AtI (touchT (tickT T) q):=by
 refine⟨?_,fun r hr=> ?_⟩
 ·show((updF T.L { q.1 with pins:=q.1.pins+1,at_:=T.clock+1 }).map (·.1.at_)).Nodup
  unfold updF;rw[List.map_map]
  have key:∀K:List FrB,(K.map (·.1.at_)).Nodup→(K.map (·.1.no)).Nodup→(∀r∈K,r.1.at_≤T.clock)→(K.map ((·.1.at_) ∘ fun r:FrB=>if r.1.no=q.1.no then (({ q.1 with pins:=q.1.pins+1,at_:=T.clock+1 }:FrP),r.2) else r)).Nodup:=by
   intro K
   induction K with
   | nil=>intro _ _ _;exact List.nodup_nil
   | cons a K ih=>
     intro h1 h2 h3;rw[List.map_cons,List.nodup_cons]at h1 h2 ⊢;refine⟨fun hm=> ?_,ih h1.2 h2.2 fun r hr=>h3 r (List.mem_cons_of_mem _ hr)⟩
     obtain⟨r,hr,e⟩:=List.mem_map.1 hm;simp only[Function.comp]at e;have ha:=h3 a (List.mem_cons_self ..);have hb:=h3 r (List.mem_cons_of_mem _ hr);by_cases e1:a.1.no=q.1.no
     ·rw[if_pos e1]at e;by_cases e2:r.1.no=q.1.no
      ·exact h2.1 (List.mem_map.2 ⟨r,hr,by rw[e1,e2]⟩)
      ·rw[if_neg e2]at e;have e:r.1.at_=T.clock+1:=e;omega
     ·rw[if_neg e1]at e;by_cases e2:r.1.no=q.1.no
      ·rw[if_pos e2]at e;have e:T.clock+1=a.1.at_:=e;omega
      ·rw[if_neg e2]at e;exact h1.1 (List.mem_map.2 ⟨r,hr,e⟩)
  exact key T.L h.nd hn h.le
 ·obtain⟨r0,hr0,_,⟨e1,e2⟩ | ⟨_,e2⟩⟩:=updF_mem hr
  ·rw[e2];exact qlr _
  ·rw[e2];exact Nat.le_succ_of_le (h.le r0 hr0)
section
variable {e0 pages c:Nat} {S:LogS} {T:PoS} {M:DkM}
theorem PoI.rfB(h:PoI e0 pages c S T M)(hc:c≤1000):RfB T:=
 ⟨h.nos,by have:=h.len;have:=h.m20;omega,by rw[h.pgs];have:=h.p20;omega,fun r hr=>by
  obtain⟨a1,a2,a3,a4,_⟩:=h.fr r hr;have:=h.turn r.1.no;exact⟨by rw[h.pgs];exact a1,by omega,by have:=a3.len;show r.1.pg.cells.length≤1000;omega,by omega⟩⟩
theorem hit_mem{n:Int}{r:FrB}(h:hitF T n=some r):r∈T.L∧inT T n∧findF T.L n=some r:=by
 unfold hitF at h;split at h
 ·rename_i hi
  exact⟨(findF_some h).1,hi,h⟩
 ·cases h
theorem PoI.flushX(h:PoI e0 pages c S T M)(hc:c≤996)(n:Int):(flushS S T n).2=(if inT T n then 0 else 1)∧(flushS S T n).1.2={ T with L:=flushL T.L (hitF T n) }∧PoI e0 pages (c+2) (flushS S T n).1.1 (flushS S T n).1.2 (flushM M (hitF T n))∧(flushS S T n).1.1.items.length=S.items.length∧(flushS S T n).1.1.forced=flushF S.items.length S.forced (hitF T n):=by
 unfold flushS;by_cases hin:inT T n
 ·rw[if_pos hin,if_pos hin,hit_in hin]
  cases hf:findF T.L n with
  | none=>exact⟨rfl,rfl,h.mono (by omega),rfl,rfl⟩
  | some q=>
    obtain⟨hq,hn⟩:=findF_some hf;obtain⟨g1,g2,g3,g4,g5,g6,g7⟩:=h.back hc hq;exact⟨g1,g2,g3,g6,g7⟩
 ·rw[if_neg hin,if_neg hin,hit_out hin];exact⟨rfl,rfl,h.mono (by omega),rfl,rfl⟩
theorem PoI.evictX(h:PoI e0 pages c S T M)(hc:c≤996)(n:Int):(evictS S T n).2=(if inT T n then evictE (hitF T n) else 1)∧(evictS S T n).1.2={ T with L:=evictL T.L (hitF T n) }∧PoI e0 pages (c+2) (evictS S T n).1.1 (evictS S T n).1.2 (evictM M (hitF T n))∧(evictS S T n).1.1.items.length=S.items.length∧(evictS S T n).1.1.forced=evictF S.items.length S.forced (hitF T n):=by
 unfold evictS;by_cases hin:inT T n
 ·rw[if_pos hin,if_pos hin,hit_in hin]
  cases hf:findF T.L n with
  | none=>exact⟨rfl,rfl,h.mono (by omega),rfl,rfl⟩
  | some q=>
    obtain⟨hq,hn⟩:=findF_some hf;unfold evictE evictL evictM evictF;simp only;by_cases hz:q.1.pins=0
    ·rw[if_pos hz,if_pos hz,if_pos hz,if_pos hz,if_pos hz];obtain⟨g1,g2,g3,g4,g5,g6⟩:=h.ev hc hq;exact⟨g1,g2,g3,g5,g6⟩
    ·rw[if_neg hz,if_neg hz,if_neg hz,if_neg hz,if_neg hz];exact⟨rfl,rfl,h.mono (by omega),rfl,rfl⟩
 ·rw[if_neg hin,if_neg hin,hit_out hin];exact⟨rfl,rfl,h.mono (by omega),rfl,rfl⟩
theorem AtI.flush(hA:AtI T)(hn:(T.L.map (·.1.no)).Nodup)(n:Int):AtI { T with L:=flushL T.L (hitF T n) }:=by
 cases hf:hitF T n with
 | none=>exact hA
 | some r=>exact hA.back hn (hit_mem hf).1
theorem AtI.evict(hA:AtI T)(hn:(T.L.map (·.1.no)).Nodup)(n:Int):AtI { T with L:=evictL T.L (hitF T n) }:=by
 cases hf:hitF T n with
 | none=>exact hA
 | some r=>
   unfold evictL;simp only;split
   ·exact(hA.back hn (hit_mem hf).1).rem r.1.no
   ·exact hA
end
section
variable {bz P l d e0 pages most c:Nat} {w:World} {p:DkP} {S:LogS} {T:PoS} {M:DkM}
theorem flushX(h:PSt bz P l d e0 pages most c w p S T M)(hc:c≤990)(n:Int):Calls Tryz.prog 43 #[.pointer (some ⟨P,0,none⟩),.int .i64 n] w fun e w'=>∃p' S',e= .returned (.int .i64 (if inT T n then 0 else 1))∧PSt bz P l d e0 pages most (c+2) w' p' S' { T with L:=flushL T.L (hitF T n) } (flushM M (hitF T n))∧S'.items.length=S.items.length∧S'.forced=flushF S.items.length S.forced (hitF T n)∧Upd (PoolF bz w) w w':=by
 refine(flush_ok h.at_ (h.inv.bounds (by omega)) (h.inv.keep (by omega)) h.half n).mono ?_
 rintro e w' ⟨p',hpd,rfl,hP,hu⟩;obtain⟨g1,g2,g3,g4,g5⟩:=h.inv.flushX (by omega) n
 rw[g2]at hP g3;exact⟨p',_,by rw[g1],⟨hP,g3,HalfW.pools h.at_.log.hz h.half hu,h.mst,hpd.trans h.pd⟩,g4,g5,hu⟩
theorem evictX(h:PSt bz P l d e0 pages most c w p S T M)(hc:c≤990)(n:Int):Calls Tryz.prog 30 #[.pointer (some ⟨P,0,none⟩),.int .i64 n] w fun e w'=>∃p' S',e= .returned (.int .i64 (if inT T n then evictE (hitF T n) else 1))∧PSt bz P l d e0 pages most (c+2) w' p' S' { T with L:=evictL T.L (hitF T n) } (evictM M (hitF T n))∧S'.items.length=S.items.length∧S'.forced=evictF S.items.length S.forced (hitF T n)∧Upd (PoolF bz w) w w':=by
 refine(evict_ok h.at_ (h.inv.bounds (by omega)) (h.inv.keep (by omega)) h.half n).mono ?_
 rintro e w' ⟨p',hpd,rfl,hP,hu⟩;obtain⟨g1,g2,g3,g4,g5⟩:=h.inv.evictX (by omega) n
 rw[g2]at hP g3;exact⟨p',_,by rw[g1],⟨hP,g3,HalfW.pools h.at_.log.hz h.half hu,h.mst,hpd.trans h.pd⟩,g4,g5,hu⟩
theorem touch_add{n b:Nat}{x:PgP×Nat}(hf:findF T.L (n:Nat)=none):frs (touchT (addT T (newFr n x.1 x.2) b) (newFr n x.1 x.2,b))=frs T++[newD n x T.clock]:=by
 unfold frs touchT addT updF;simp only[List.map_append,List.map_map,List.map_cons,List.map_nil]
 congr 1
 ·refine List.map_congr_left fun r hr=> ?_
  have:=findF_none hf r hr;simp only[Function.comp];rw[if_neg (by show ¬r.1.no=n;omega)]
structure FetX(n most:Nat)(S S':LogS)(T T':PoS)(M M':DkM)(x:Int):Prop where
 len:S'.items.length=S.items.length
 clk:T'.clock=T.clock+1
 hit:∀r,findF T.L (n:Nat)=some r→x=0∧frs T'=frs (touchT (tickT T) r)∧M'=M∧S'.forced=S.forced
 room:findF T.L (n:Nat)=none→T.L.length<most→x=0∧frs T'=frs T++[newD n (M n) (T.clock+1)]∧M'=M∧S'.forced=S.forced
 full:findF T.L (n:Nat)=none→¬T.L.length<most→(∀r∈T.L,r.1.pins≠0)→x=120∧frs T'=frs T∧M'=M∧S'.forced=S.forced
 old:findF T.L (n:Nat)=none→¬T.L.length<most→¬(∀r∈T.L,r.1.pins≠0)→∃r,IsOld T.L r∧x=0∧frs T'=(remF (backL T.L r.1) r.1.no).map (·.1)++[newD n (M n) (T.clock+1)]∧M'=backM M r.1∧S'.forced=if r.1.rc≠0∧S.forced<r.1.lsn then S.items.length else S.forced
theorem fetchX(h:PSt bz P l d e0 pages most c w p S T M)(hc:c≤990)(n:Nat)(hn:n<pages):Calls Tryz.prog 23 #[.pointer (some ⟨P,0,none⟩),.int .i64 (n:Nat)] w fun e w'=>∃p' S' T' M' x,e= .returned (.int .i64 x)∧PSt bz P l d e0 pages most (c+4) w' p' S' T' M'∧FetX n most S S' T T' M M' x∧Upd (PoolF bz w) w w':=by
 have hclk:=h.inv.clk;have htr:=h.inv.turn n;obtain⟨s0,hs0⟩:=h.inv.place n hn;have hin:inT T (n:Int):=⟨by omega,by rw[h.inv.pgs];omega⟩
 have hf:=fetch_ok h.at_ (h.inv.bounds (by omega)) (by omega) (h.inv.tick.keep (by omega)) h.half n hin (M n).1 (M n).2 hs0.page_ok.1 (by omega) fun hno R hR h0=>by
  obtain⟨M',g1,g2,g3,g4,g5,g6,g7,g8⟩:=h.inv.tick.room (by omega) hR
  obtain⟨_,hM⟩:=g6 n hno;obtain⟨sy,hd,_⟩:=g1.lg.dk;obtain⟨s,hs⟩:=g1.place n hn;rw[hM]at hs;exact⟨hd.down,by rw[hd.size];omega,s,hs⟩
 refine hf.mono ?_;rintro e w' ⟨hA,hB⟩;have half:∀{w'},Upd (PoolF bz w) w w'→HalfW w':=fun hu=>HalfW.pools h.at_.log.hz h.half hu
 cases hfd:findF T.L (n:Nat) with
 | some q=>
   obtain⟨hq,hqn⟩:=findF_some hfd;obtain⟨p',hpd,rfl,hP,hu⟩:=hA q hfd;have hI:=h.inv.tick.touch (q:=q) hq;exact⟨p',_,_,M,_,rfl,⟨hP,hI.1.mono (by omega),half hu,h.mst,hpd.trans h.pd⟩,⟨rfl,rfl,fun r hr=>by rw[hfd]at hr;cases hr;exact⟨rfl,rfl,rfl,rfl⟩,fun e=>(by rw[hfd]at e;cases e),fun e=>(by rw[hfd]at e;cases e),fun e=>(by rw[hfd]at e;cases e)⟩,hu⟩
 | none=>
   obtain⟨R,hR,hR1,hR2⟩:=hB hfd;obtain⟨M0,_,_,_,g4,g5,g6,_,_⟩:=h.inv.tick.room (by omega) hR
   have gn:=(g6 n hfd).1;have hmost:=h.mst
   rcases hR with⟨h1,rfl⟩ | ⟨h1,h2,rfl⟩ | ⟨h1,q,hq,rfl⟩
   ·obtain⟨b,p',hpd,rfl,hP,hu⟩:=hR2 rfl;have ha:=h.inv.tick.add h1 (b:=b) hn gn;have hmem:(newFr n (M n).1 (M n).2,b)∈(addT (tickT T) (newFr n (M n).1 (M n).2) b).L:=qma.2 (.inr (List.mem_singleton.2 rfl));have ht:=ha.1.touch hmem;have hfr:=touch_add (T:=tickT T) (b:=b) (x:=M n) gn;have h1':T.L.length<most:=by have:T.L.length<T.most:=h1;omega
    exact⟨p',_,_,M,_,rfl,⟨hP,ht.1.mono (by omega),half hu,h.mst,hpd.trans h.pd⟩,⟨rfl,rfl,fun r hr=>(by rw[hfd]at hr;cases hr),fun _ _=>⟨rfl,hfr,rfl,rfl⟩,fun _ e=>absurd h1' e,fun _ e=>absurd h1' e⟩,hu⟩
   ·obtain⟨p',hpd,rfl,hP,hu⟩:=hR1 (show(120:Int)≠0 by decide)
    have h1':¬T.L.length<most:=by have:¬T.L.length<T.most:=h1;omega
    exact⟨p',_,_,M,_,rfl,⟨hP,h.inv.tick.mono (by omega),half hu,h.mst,hpd.trans h.pd⟩,⟨rfl,rfl,fun r hr=>(by rw[hfd]at hr;cases hr),fun _ e=>absurd e h1',fun _ _ _=>⟨rfl,rfl,rfl,rfl⟩,fun _ _ e=>absurd h2 e⟩,hu⟩
   ·obtain⟨k1,k2,k3,_,k5,k6⟩:=h.inv.tick.ev (by omega) hq.mem
    obtain⟨b,p',hpd,rfl,hP,hu⟩:=hR2 k1;have hlt:=g4 k1
    have hMn:backM M q.1 n=M n:=by
     have hne:n≠q.1.no:=fun e=>by
      have:=findF_none hfd q hq.mem;omega
     unfold backM setM;split
     ·rfl
     ·exact if_neg hne
    rw[k2]at hP gn hlt k3;have ha:=PoI.add k3 hlt (b:=b) hn gn;rw[hMn]at ha;have hmem:(newFr n (M n).1 (M n).2,b)∈(addT { tickT T with L:=remF (backL (tickT T).L q.1) q.1.no } (newFr n (M n).1 (M n).2) b).L:=qma.2 (.inr (List.mem_singleton.2 rfl))
    have ht:=ha.1.touch hmem;have hfr:=touch_add (T:={ tickT T with L:=remF (backL (tickT T).L q.1) q.1.no }) (b:=b) (x:=M n) gn
    have h1':¬T.L.length<most:=by have:¬T.L.length<T.most:=h1;omega
    exact⟨p',_,_,backM M q.1,_,rfl,⟨hP,ht.1.mono (by omega),half hu,h.mst,hpd.trans h.pd⟩,⟨k5,rfl,fun r hr=>(by rw[hfd]at hr;cases hr),fun _ e=>absurd e h1',fun _ _ e=>absurd hq.pins (e q hq.mem),fun _ _ _=>⟨q,hq,rfl,hfr,rfl,k6⟩⟩,hu⟩
end
section
variable {bz:Nat} {w w':World} {q most pages:Nat} {L:List FrP} {T:PoS} {M:DkM} {la fo ck:Nat}
theorem rfetch_no(h:RfAt bz w q most pages L M la fo ck)(n:Int)(hn:inR pages n=false):Calls Tryz.prog 86 #[.pointer (some ⟨q,0,none⟩),.int .i64 n] w fun e w'=>e= .returned (.int .i64 1)∧w'=w:=by
 have HIS:=qh (ris_ok h n);rw[hn]at HIS;clear h hn;go_enter Tryz.func86,Tryz.ntmps86
 go_wp2_with fail
 refine HIS.out.mono ?_;rintro e w9 ⟨rfl,hw9⟩;obtain rfl:=hw9.symm;go_wp2_with fail
 go_ret;exact⟨rfl,rfl⟩
end
structure KB(w w1:World)(P l d pg fr x q c:Nat)(wr:World):Prop where
 ex:∃p S T M,PSt w1.heap.size P l d 0 pg fr c wr p S T M∧RfAt w1.heap.size wr q fr pg (frs T) M S.items.length S.forced T.clock∧AtI T
 play:Blk wr x 65 #[.pointer (some ⟨d,0,none⟩),.pointer (some ⟨l,0,none⟩),.pointer (some ⟨P,0,none⟩),.pointer (some ⟨q,0,none⟩)]
 upd:Upd (fun k=>w.heap.size≤k) w wr
 le:w.heap.size≤w1.heap.size
section
variable {bz P l d e0 pages most c:Nat} {w:World} {p:DkP} {S:LogS} {T:PoS} {M:DkM}
theorem PSt.rf(h:PSt bz P l d e0 pages most c w p S T M){w':World}(hu:Upd (RfF bz w) w w'):PSt bz P l d e0 pages most c w' p S T M:=
 h.upd hu (fun _ e=>⟨e.1,e.noPool⟩) (RfF.noU8 w) (RfF.noC w)
theorem PSt.size(h:PSt bz P l d e0 pages most c w p S T M):bz≤w.heap.size:=by
 have:=h.at_.blk.lt;have:=h.at_.hP;omega
end
section
variable {w w1 wr:World} {P l d pg fr x q c:Nat}
theorem KB.up(h:KB w w1 P l d pg fr x q c wr){w':World}(hu:Upd Nowhere wr w'):KB w w1 P l d pg fr x q c w':=by
 obtain⟨p,S,T,M,h1,h2,h3⟩:=h.ex;exact⟨⟨p,S,T,M,h1.up hu,h2.up hu,h3⟩,h.play.upd hu id,h.upd.same hu.any,h.le⟩
theorem KB.mono(h:KB w w1 P l d pg fr x q c wr){c':Nat}(hc:c≤c'):KB w w1 P l d pg fr x q c' wr:=by
 obtain⟨p,S,T,M,h1,h2⟩:=h.ex;exact⟨⟨p,S,T,M,h1.mono hc,h2⟩,h.play,h.upd,h.le⟩
theorem KB.both(h:KB w w1 P l d pg fr x q c wr){w2 w3:World}(hu:Upd (PoolF w1.heap.size wr) wr w2)(hu3:Upd (RfF w1.heap.size w2) w2 w3){c':Nat}(hex:∃p S T M,PSt w1.heap.size P l d 0 pg fr c' w2 p S T M∧RfAt w1.heap.size w3 q fr pg (frs T) M S.items.length S.forced T.clock∧AtI T):KB w w1 P l d pg fr x q c' w3:=by
 obtain⟨p,S,T,M,h1,h2,h3⟩:=hex;have hp:=h.play.play hu;exact⟨⟨p,S,T,M,h1.rf hu3,h2,h3⟩,hp.upd hu3 (hp.noRf rfl),(h.upd.same (hu.mono fun _ _ e=>Nat.le_trans h.le e.1)).same (hu3.mono fun _ _ e=>Nat.le_trans h.le e.1),h.le⟩
theorem inR_T{T:PoS}{n:Int}(hp:T.pages=pg):inR pg n=true↔inT T n:=by
 rw[inR_iff,←hp];exact Iff.rfl
theorem KB.unpin(h:KB w w1 P l d pg fr x q c wr)(hc:c≤980)(n:Int):Calls Tryz.prog 29 #[.pointer (some ⟨P,0,none⟩),.int .i64 n] wr fun e w2=>∃y,e= .returned (.int .i64 y)∧Upd (PoolF w1.heap.size wr) wr w2∧Calls Tryz.prog 87 #[.pointer (some ⟨q,0,none⟩),.int .i64 n] w2 fun e2 w3=>e2= .returned (.int .i64 y)∧KB w w1 P l d pg fr x q c w3∧Upd (RfF w1.heap.size w2) w2 w3:=by
 obtain⟨p,S,T,M,h1,h2,h3⟩:=h.ex;have hB:=h1.inv.rfB (by omega)
 refine(unpinK h1 (by omega) n).mono ?_
 rintro e w2 ⟨rfl,hP,hu⟩;refine⟨_,rfl,hu,?_⟩;have hr:=h2.pool hu;rw[←h1.inv.pgs]at hr;refine(runpin_ok hr hB.nos hB.len (fun r hr=>(hB.fr r hr).2.2.2) n).mono ?_
 rintro e w3 ⟨rfl,hR,hu3⟩;rw[h1.inv.pgs]at hR;refine⟨rfl,h.both hu hu3 ⟨p,S,_,M,hP,?_,?_⟩,hu3⟩
 ·have hck:(unpinS T n).1.clock=T.clock:=by unfold unpinS;split<;>rfl
  rw[hck];exact hR
 ·unfold unpinS;split
  ·exact h3
  ·rename_i r hr
   exact h3.upd hB.nos (pinS_ok hr).1 rfl rfl
theorem KB.flush(h:KB w w1 P l d pg fr x q c wr)(hc:c≤980)(n:Int):Calls Tryz.prog 43 #[.pointer (some ⟨P,0,none⟩),.int .i64 n] wr fun e w2=>∃y,e= .returned (.int .i64 y)∧Upd (PoolF w1.heap.size wr) wr w2∧Calls Tryz.prog 89 #[.pointer (some ⟨q,0,none⟩),.int .i64 n] w2 fun e2 w3=>e2= .returned (.int .i64 y)∧KB w w1 P l d pg fr x q (c+2) w3∧Upd (RfF w1.heap.size w2) w2 w3:=by
 obtain⟨p,S,T,M,h1,h2,h3⟩:=h.ex;have hB:=h1.inv.rfB (by omega)
 refine(flushX h1 (by omega) n).mono ?_
 rintro e w2 ⟨p',S',rfl,hP,hl,hf,hu⟩;refine⟨_,rfl,hu,?_⟩;have hr:=h2.pool hu;rw[←h1.inv.pgs]at hr;refine(rflush_ok hr hB hP.size n).mono ?_;rintro e w3 ⟨rfl,hR,hu3⟩;rw[h1.inv.pgs]at hR;exact⟨rfl,h.both hu hu3 ⟨p',S',_,_,hP,by rw[hl,hf];exact hR,h3.flush hB.nos n⟩,hu3⟩
theorem KB.evict(h:KB w w1 P l d pg fr x q c wr)(hc:c≤980)(n:Int):Calls Tryz.prog 30 #[.pointer (some ⟨P,0,none⟩),.int .i64 n] wr fun e w2=>∃y,e= .returned (.int .i64 y)∧Upd (PoolF w1.heap.size wr) wr w2∧Calls Tryz.prog 90 #[.pointer (some ⟨q,0,none⟩),.int .i64 n] w2 fun e2 w3=>e2= .returned (.int .i64 y)∧KB w w1 P l d pg fr x q (c+2) w3∧Upd (RfF w1.heap.size w2) w2 w3:=by
 obtain⟨p,S,T,M,h1,h2,h3⟩:=h.ex;have hB:=h1.inv.rfB (by omega)
 refine(evictX h1 (by omega) n).mono ?_
 rintro e w2 ⟨p',S',rfl,hP,hl,hf,hu⟩;refine⟨_,rfl,hu,?_⟩;have hr:=h2.pool hu;rw[←h1.inv.pgs]at hr;refine(revict_ok hr hB hP.size n).mono ?_;rintro e w3 ⟨rfl,hR,hu3⟩;rw[h1.inv.pgs]at hR;exact⟨rfl,h.both hu hu3 ⟨p',S',_,_,hP,by rw[hl,hf];exact hR,h3.evict hB.nos n⟩,hu3⟩
theorem AtI.of{T T':PoS}{K:List FrB}(hc:T'.clock=T.clock)(hK:frs T'=K.map (·.1))(h:AtI { T with L:=K }):AtI T':=by
 have e:T'.L.map (·.1.at_)=K.map (·.1.at_):=by
  have:=congrArg (List.map (·.at_)) hK;unfold frs at this;rw[List.map_map,List.map_map]at this;exact this
 refine⟨by rw[e];exact h.nd,fun r hr=> ?_⟩
 have:r.1.at_∈T'.L.map (·.1.at_):=List.mem_map.2 ⟨r,hr,rfl⟩;rw[e]at this;obtain⟨s,hs,e2⟩:=List.mem_map.1 this;rw[hc,←e2];exact h.le s hs
theorem AtI.more{T:PoS}(h:AtI T)(n b:Nat)(y:PgP×Nat):AtI { tickT T with L:=T.L++[(newD n y (T.clock+1),b)] }:=by
 refine⟨?_,fun r hr=> ?_⟩
 ·show((T.L++[(newD n y (T.clock+1),b)]).map (·.1.at_)).Nodup
  rw[List.map_append,List.nodup_append];refine⟨h.nd,by simp,fun a ha z hz e=> ?_⟩
  obtain⟨r,hr,rfl⟩:=List.mem_map.1 ha;simp only[List.map_cons,List.map_nil,List.mem_singleton]at hz;have:=h.le r hr;rw[hz]at e;have e:r.1.at_=T.clock+1:=e;omega
 ·rcases qma.1 (show r∈T.L++[(newD n y (T.clock+1),b)] from hr) with hr | hr
  ·exact Nat.le_succ_of_le (h.le r hr)
  ·rw[List.mem_singleton.1 hr];exact qlr _
theorem frs_add(K:List FrB)(n:Nat)(y:PgP×Nat)(t:Nat):(K++[((newD n y t,0):FrB)]).map (fun q:FrB=>q.1)=K.map (fun q:FrB=>q.1)++[newD n y t]:=by
 rw[List.map_append];rfl
theorem KB.fetch(h:KB w w1 P l d pg fr x q c wr)(hc:c≤980)(n:Int):Calls Tryz.prog 23 #[.pointer (some ⟨P,0,none⟩),.int .i64 n] wr fun e w2=>∃y,e= .returned (.int .i64 y)∧Upd (PoolF w1.heap.size wr) wr w2∧Calls Tryz.prog 86 #[.pointer (some ⟨q,0,none⟩),.int .i64 n] w2 fun e2 w3=>e2= .returned (.int .i64 y)∧KB w w1 P l d pg fr x q (c+4) w3∧Upd (RfF w1.heap.size w2) w2 w3:=by
 obtain⟨p,S,T,M,h1,h2,h3⟩:=h.ex;have hB:=h1.inv.rfB (by omega)
 cases hin:inR pg n with
 | false=>
   have hni:¬inT T n:=fun e=>by
    have:=(inR_T h1.inv.pgs).2 e;rw[hin]at this
    cases this
   refine(fetch_no h1.at_ n hni).mono ?_;rintro e w2 ⟨rfl,rfl⟩;refine⟨_,rfl,Upd.refl _ _,?_⟩;refine(rfetch_no h2 n hin).mono ?_;rintro e w3 ⟨rfl,rfl⟩;exact⟨rfl,h.mono (by omega),Upd.refl _ _⟩
 | true=>
   obtain⟨i1,i2⟩:=inR_iff.1 hin;obtain⟨m,rfl⟩:∃m:Nat,n=(m:Nat):=⟨n.toNat,by omega⟩
   have hm:m<pg:=by omega
   refine(fetchX h1 (by omega) m hm).mono ?_
   rintro e w2 ⟨p',S',T',M',y,rfl,hP,hF,hu⟩;refine⟨_,rfl,hu,?_⟩;have hr:=h2.pool hu;rw[←h1.inv.pgs]at hr;obtain⟨s0,hs0⟩:=h1.inv.place m hm;have hck:=h1.inv.clk;have hmo:=h1.mst;have hm20:=h1.inv.m20;refine(rfetch_ok hr hB hP.size (by omega) (by omega) m (by rw[h1.inv.pgs];exact hm) (by have:=hs0.page_ok.1.len;omega)).mono ?_
   rintro e w3 hD;have hu3:=hD.upd
   cases hfd:findF T.L (m:Nat) with
   | some r=>
     obtain⟨rfl,f2,rfl,f4⟩:=hF.hit r hfd;obtain⟨rfl,hR⟩:=hD.hit r hfd;rw[h1.inv.pgs,←f2]at hR;refine⟨rfl,h.both hu hu3 ⟨p',S',T',_,hP,by rw[hF.len,f4,hF.clk];exact hR,?_⟩,hu3⟩
     exact AtI.of (T:=tickT T) hF.clk f2 (h3.touch hB.nos r)
   | none=>
     by_cases hlt:T.L.length<fr
     ·obtain⟨rfl,f2,rfl,f4⟩:=hF.room hfd hlt;obtain⟨rfl,hR⟩:=hD.room hfd hlt;rw[h1.inv.pgs,←f2]at hR;refine⟨rfl,h.both hu hu3 ⟨p',S',T',_,hP,by rw[hF.len,f4,hF.clk];exact hR,?_⟩,hu3⟩
      exact AtI.of (T:=tickT T) (K:=T.L++[(newD m (M' m) (T.clock+1),0)]) hF.clk (by rw[f2,frs_add]) (h3.more m 0 _)
     ·by_cases hall:∀r∈T.L,r.1.pins≠0
      ·obtain⟨rfl,f2,rfl,f4⟩:=hF.full hfd hlt hall;obtain⟨rfl,hR⟩:=hD.full hfd hlt hall;rw[h1.inv.pgs,←f2]at hR;refine⟨rfl,h.both hu hu3 ⟨p',S',T',_,hP,by rw[hF.len,f4,hF.clk];exact hR,?_⟩,hu3⟩
       exact AtI.of (T:=tickT T) (K:=T.L) hF.clk f2 h3.tick
      ·obtain⟨r,ho,rfl,f2,f3,f4⟩:=hF.old hfd hlt hall;obtain⟨r',ho',rfl,hR⟩:=hD.old hfd hlt hall;obtain rfl:r=r':=IsOld.one h3 ho ho';rw[h1.inv.pgs,←f2]at hR;refine⟨rfl,h.both hu hu3 ⟨p',S',T',M',hP,by rw[hF.len,f4,hF.clk,f3];exact hR,?_⟩,hu3⟩
       have h5:=(h3.back hB.nos ho.mem).rem r.1.no;exact AtI.of (T:=tickT T) (K:=remF (backL T.L r.1) r.1.no++[(newD m (M m) (T.clock+1),0)]) hF.clk (by rw[f2,frs_add]) (AtI.more (T:={ T with L:=remF (backL T.L r.1) r.1.no }) h5 m 0 (M m))
end
end Go.Proofs.YtdfccegeihfdpaaGreatDoor
