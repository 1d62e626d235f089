/-
  What a pool holds to, told beside the pages on its disk (plain Lean, no program in sight).
-/
import Derived.Test.YtdfccegeihfdpaaGreatDoorAPgO
namespace Go.Proofs.YtdfccegeihfdpaaGreatDoor
open Go
theorem findF_upd(L:List FrB)(x:FrP)(m:Int):findF (updF L x) m=(findF L m).map fun r=>if r.1.no=x.no then (x,r.2) else r:=by
 unfold findF updF;rw[List.find?_map]
 congr 1
 have:((fun q:FrB=>decide ((q.1.no:Int)=m)) ∘ fun r:FrB=>if r.1.no=x.no then (x,r.2) else r)=fun q=>decide ((q.1.no:Int)=m):=by
  funext r
  show decide (((if r.1.no=x.no then (x,r.2) else r).1.no:Int)=m)=_
  by_cases h:r.1.no=x.no
  ·rw[if_pos h,h]
  ·rw[if_neg h]
 rw[this]
abbrev DkM:=Nat→PgP×Nat
def setM(M:DkM)(n:Nat)(x:PgP×Nat):DkM:=fun m=>if m=n then x else M m
def curP(L:List FrB)(M:DkM)(n:Nat):PgP:=match findF L (n:Nat) with
 | some q=>q.1.pg
 | none=>(M n).1
structure PoI(e0 pages c:Nat)(S:LogS)(T:PoS)(M:DkM):Prop where
 lg:PLg pages c S
 pgs:T.pages=pages
 p20:pages≤20
 m20:T.most≤20
 m1:1≤T.most
 clk:T.clock≤c
 len:T.L.length≤T.most
 nos:(T.L.map (·.1.no)).Nodup
 place:∀n,n<pages→∃s,PlaceIs S.dk n s (M n).1 (M n).2
 turn:∀n,(M n).2≤c
 ahead:∀n,(M n).1.lsn≤S.forced+e0
 fr:∀q∈T.L,q.1.no<pages∧q.1.pins≤c∧q.1.pg.ok∧q.1.stamp=(M q.1.no).2∧(q.1.rc=0→q.1.pg=(M q.1.no).1)∧q.1.lsn≤S.items.length+e0
section
variable {e0 pages c:Nat} {S:LogS} {T:PoS} {M:DkM}
theorem PoI.mono(h:PoI e0 pages c S T M){c':Nat}(hc:c≤c'):PoI e0 pages c' S T M:=
 ⟨h.lg.mono hc,h.pgs,h.p20,h.m20,h.m1,Nat.le_trans h.clk hc,h.len,h.nos,h.place,fun n=>Nat.le_trans (h.turn n) hc,h.ahead,fun q hq=>by
  obtain⟨h1,h2,h3⟩:=h.fr q hq;exact⟨h1,Nat.le_trans h2 hc,h3⟩⟩
theorem PoI.bounds(h:PoI e0 pages c S T M)(hc:c≤1000):PoB T:=
 ⟨by rw[h.pgs];exact h.p20,h.m20,by have:=h.clk;omega,h.len,fun q hq=>by
  obtain⟨h1,h2,h3,h4,_⟩:=h.fr q hq;have:=h.turn q.1.no;exact⟨by rw[h.pgs];exact h1,by omega,by omega,h3⟩⟩
theorem PLg.dkc(h:PLg pages c S)(hc:c≤2000){n:Nat}(hn:n<pages):DkC n S.dk:=by
 obtain⟨sy,hd,s1,s2⟩:=h.dk;exact⟨by rw[hd.fuse];omega,by rw[hd.syncs];omega,by rw[hd.size];omega,hd.read,by have:=hd.pend;omega⟩
theorem PoI.keep(h:PoI e0 pages c S T M)(hc:c≤998):PoK S T:=
 ⟨⟨2,h.lg.bounds h.p20 (by omega),by omega⟩,h.lg.dwn,fun q hq=>by
  have h1:=(h.fr q hq).1;obtain⟨_,h2,_⟩:=h.lg.force h.p20 (by omega)
  exact⟨h.lg.dkc (by omega) h1,h2.dkc (by omega) h1⟩⟩
theorem PoI.find(h:PoI e0 pages c S T M){q:FrB}(hq:q∈T.L):findF T.L (q.1.no:Nat)=some q:=findF_of h.nos hq
theorem curP_in(h:PoI e0 pages c S T M){q:FrB}(hq:q∈T.L):curP T.L M q.1.no=q.1.pg:=by
 unfold curP;rw[h.find hq]
theorem PoI.upd(h:PoI e0 pages c S T M){q:FrB}(hq:q∈T.L){x:FrP}(hn:x.no=q.1.no)(hx:x.pins≤c∧x.pg.ok∧x.stamp=(M x.no).2∧(x.rc=0→x.pg=(M x.no).1)∧x.lsn≤S.items.length+e0):PoI e0 pages c S { T with L:=updF T.L x } M:=
 ⟨h.lg,h.pgs,h.p20,h.m20,h.m1,h.clk,by show(updF T.L x).length≤_;unfold updF;rw[qlm];exact h.len,by show((updF T.L x).map _).Nodup;rw[updF_nos];exact h.nos,h.place,h.turn,h.ahead,fun r hr=>by
  obtain⟨r0,hr0,_,⟨e1,e2⟩ | ⟨_,e2⟩⟩:=updF_mem hr
  ·rw[e2];exact⟨by rw[hn];exact(h.fr q hq).1,hx⟩
  ·rw[e2];exact h.fr r0 hr0⟩
theorem curP_upd{L:List FrB}(x:FrP)(n:Nat)(hx:findF L (x.no:Nat)≠none):curP (updF L x) M n=if n=x.no then x.pg else curP L M n:=by
 unfold curP;rw[findF_upd];by_cases e:n=x.no
 ·rw[if_pos e];subst e
  cases hf:findF L (x.no:Nat) with
  | none=>exact absurd hf hx
  | some r=>
    have:=(findF_some hf).2
    show(if r.1.no=x.no then (x,r.2) else r).1.pg=x.pg
    rw[if_pos (by omega)]
 ·rw[if_neg e]
  cases hf:findF L (n:Nat) with
  | none=>rfl
  | some r=>
    have:=(findF_some hf).2
    show(if r.1.no=x.no then (x,r.2) else r).1.pg=r.1.pg
    rw[if_neg (by omega)]
theorem PoI.forced(h:PoI e0 pages c S T M)(hc:c≤998):S.forceS.2=0∧PoI e0 pages (c+1) S.forceS.1 T M∧S.forceS.1.forced=S.items.length∧S.forceS.1.items.length=S.items.length:=by
 obtain⟨h1,h2,h3,h4⟩:=h.lg.force h.p20 (by omega)
 refine⟨h1,⟨h2,h.pgs,h.p20,h.m20,h.m1,by have:=h.clk;omega,h.len,h.nos,fun n hn=> ?_,fun n=>by have:=h.turn n;omega,fun n=> ?_,fun q hq=> ?_⟩,h3,h4⟩
 ·obtain⟨s,hs⟩:=h.place n hn;exact⟨s,hs.force h.lg.cnt⟩
 ·have:=h.ahead n;have:=h.lg.frc;omega
 ·obtain⟨a1,a2,a3,a4,a5,a6⟩:=h.fr q hq;exact⟨a1,by omega,a3,a4,a5,by omega⟩
theorem PLg.lastF(h:PLg pages c S):S.lastF=(S.forced:Nat):=by
 unfold LogS.lastF;rw[h.mst]
 show(1:Int)+_ - 1=_
 omega
def backM(M:DkM)(x:FrP):DkM:=if x.rc=0 then M else setM M x.no (x.pg,x.stamp+1)
def backL(L:List FrB)(x:FrP):List FrB:=if x.rc=0 then L else updF L { x with stamp:=x.stamp+1,rc:=0 }
theorem PoI.fc(h:PoI e0 pages c S T M)(hc:c≤998)(x:FrP)(hx:x.lsn≤S.items.length+e0):(fcS S x).2=0∧PoI e0 pages (c+1) (fcS S x).1 T M∧x.lsn≤(fcS S x).1.forced+e0∧(fcS S x).1.items.length=S.items.length∧(fcS S x).1.forced=if S.forced<x.lsn then S.items.length else S.forced:=by
 have hl:=h.lg.lastF;unfold fcS;by_cases hlt:S.lastF<(x.lsn:Int)
 ·rw[if_pos hlt];obtain⟨h1,h2,h3,h4⟩:=h.forced hc;exact⟨h1,h2,by omega,h4,by rw[if_pos (by omega)];exact h3⟩
 ·rw[if_neg hlt];exact⟨rfl,h.mono (by omega),by show x.lsn≤S.forced+e0;omega,rfl,by rw[if_neg (by omega)]⟩
theorem PoI.back(h:PoI e0 pages c S T M)(hc:c≤996){q:FrB}(hq:q∈T.L):(backS S T q.1).2=0∧(backS S T q.1).1.2={ T with L:=backL T.L q.1 }∧PoI e0 pages (c+2) (backS S T q.1).1.1 (backS S T q.1).1.2 (backM M q.1)∧(∀n,curP (backS S T q.1).1.2.L (backM M q.1) n=curP T.L M n)∧(backM M q.1 q.1.no).1=q.1.pg∧(backS S T q.1).1.1.items.length=S.items.length∧(backS S T q.1).1.1.forced=if q.1.rc≠0∧S.forced<q.1.lsn then S.items.length else S.forced:=by
 obtain⟨f1,f2,f3,f4,f5,f6⟩:=h.fr q hq;unfold backS backM backL;by_cases hr:q.1.rc=0
 ·rw[if_pos hr,if_pos hr,if_pos hr];exact⟨rfl,rfl,h.mono (by omega),fun _=>rfl,(f5 hr).symm,rfl,by rw[if_neg (by simp[hr])]⟩
 ·rw[if_neg hr,if_neg hr,if_neg hr];obtain⟨g1,g2,g3,g4,g5⟩:=h.fc (by omega) q.1 f6
  rw[if_neg (by simp[g1])]
  obtain⟨S1,hS1⟩:∃S1,(fcS S q.1).1=S1:=⟨_,rfl⟩;rw[hS1]at g2 g3 g4 g5 ⊢;have ht:=h.turn q.1.no;obtain⟨k1,k2⟩:=g2.lg.save (n:=q.1.no) (turn:=q.1.stamp+1) f3 (by omega) (by omega)
  rw[if_neg (by simp[k1])]
  have hcur:∀n,curP (updF T.L { q.1 with stamp:=q.1.stamp+1,rc:=0 }) (setM M q.1.no (q.1.pg,q.1.stamp+1)) n=curP T.L M n:=fun n=>by
   rw[curP_upd _ _ (by show findF T.L (q.1.no:Nat)≠none;rw[h.find hq];simp)]
   by_cases e:n=q.1.no
   ·rw[if_pos e,e,curP_in h hq];rfl
   ·rw[if_neg e];unfold curP setM;rw[if_neg e]
  refine⟨rfl,rfl,⟨k2,h.pgs,h.p20,h.m20,h.m1,by have:=h.clk;show T.clock≤_;omega,?_,?_,fun n hn=> ?_,fun n=> ?_,fun n=> ?_,fun r hr2=> ?_⟩,hcur,by unfold setM;rw[if_pos rfl],g4,by rw[g5];simp[hr]⟩
  ·show(updF T.L _).length≤_
   unfold updF;rw[qlm];exact h.len
  ·show((updF T.L _).map _).Nodup
   rw[updF_nos];exact h.nos
  ·obtain⟨s,hs⟩:=g2.place n hn;obtain⟨sy,hd,_⟩:=g2.lg.dk;unfold setM;by_cases e:n=q.1.no
   ·rw[if_pos e];subst e;rw[←f4]at hs;exact⟨_,hs.save hd f3 (by omega)⟩
   ·rw[if_neg e];exact⟨s,hs.other fun e2=>e e2.symm⟩
  ·unfold setM;split
   ·show q.1.stamp+1≤c+2
    omega
   ·have:=h.turn n;omega
  ·unfold setM;split
   ·exact g3
   ·exact g2.ahead n
  ·obtain⟨r0,hr0,_,⟨e1,e2⟩ | ⟨e1,e2⟩⟩:=updF_mem hr2
   ·rw[e2];refine⟨f1,by show q.1.pins≤c+2;omega,f3,?_,fun _=> ?_,by show q.1.lsn≤S1.items.length+e0;omega⟩
    ·unfold setM;rw[if_pos rfl]
    ·unfold setM;rw[if_pos rfl];rfl
   ·rw[e2];obtain⟨b1,b2,b3,b4,b5,b6⟩:=g2.fr r0 hr0;have e3:r0.1.no≠q.1.no:=e1;unfold setM;rw[if_neg e3];exact⟨b1,by omega,b3,b4,b5,b6⟩
theorem PoI.rem(h:PoI e0 pages c S T M)(n:Nat):PoI e0 pages c S { T with L:=remF T.L n } M:=
 ⟨h.lg,h.pgs,h.p20,h.m20,h.m1,h.clk,Nat.le_trans (List.length_filter_le ..) h.len,(h.nos.sublist (List.Sublist.map _ List.filter_sublist)),h.place,h.turn,h.ahead,fun q hq=>h.fr q (List.mem_filter.1 hq).1⟩
theorem curP_rem{L:List FrB}(n m:Nat)(hn:∀q,findF L (n:Nat)=some q→q.1.pg=(M n).1):curP (remF L n) M m=curP L M m:=by
 unfold curP;rw[findF_rem];by_cases e:m=n
 ·subst e;rw[if_pos rfl]
  cases hf:findF L (m:Nat) with
  | none=>rfl
  | some q=>exact(hn q hf).symm
 ·rw[if_neg (by omega)]
theorem PoI.ev(h:PoI e0 pages c S T M)(hc:c≤996){q:FrB}(hq:q∈T.L):(evS S T q).2=0∧(evS S T q).1.2={ T with L:=remF (backL T.L q.1) q.1.no }∧PoI e0 pages (c+2) (evS S T q).1.1 (evS S T q).1.2 (backM M q.1)∧(∀n,curP (evS S T q).1.2.L (backM M q.1) n=curP T.L M n)∧(evS S T q).1.1.items.length=S.items.length∧(evS S T q).1.1.forced=if q.1.rc≠0∧S.forced<q.1.lsn then S.items.length else S.forced:=by
 obtain⟨h1,h2,h3,h4,h5,h6,h7⟩:=h.back hc hq;unfold evS;rw[if_pos h1];refine⟨rfl,by rw[h2],h3.rem q.1.no,fun n=> ?_,h6,h7⟩
 show curP (remF (backS S T q.1).1.2.L q.1.no) _ n=_
 rw[curP_rem,h4];intro r hr;have h8:=h4 q.1.no;rw[curP_in h hq]at h8;unfold curP at h8;rw[hr]at h8;rw[h5];exact h8
theorem rem_len{L:List FrB}(hn:(L.map (·.1.no)).Nodup){q:FrB}(hq:q∈L):(remF L q.1.no).length+1=L.length:=by
 unfold remF
 induction L with
 | nil=>cases hq
 | cons a L ih=>
   rw[List.map_cons,List.nodup_cons]at hn
   rcases qmc.1 hq with rfl | hq
   ·rw[List.filter_cons_of_neg (by simp),List.filter_eq_self.2 fun r hr=> ?_]
    ·rfl
    ·have:r.1.no≠q.1.no:=fun e=>hn.1 (List.mem_map.2 ⟨r,hr,e⟩)
     simpa using this
   ·have:a.1.no≠q.1.no:=fun e=>hn.1 (List.mem_map.2 ⟨q,hq,e.symm⟩)
    rw[List.filter_cons_of_pos (by simpa using this),List.length_cons,List.length_cons,ih hn.2 hq]
theorem PoI.room(h:PoI e0 pages c S T M)(hc:c≤996){R:(LogS×PoS)×Int}(hR:RoomR S T R):
 ∃M',PoI e0 pages (c+2) R.1.1 R.1.2 M'∧(∀n,curP R.1.2.L M' n=curP T.L M n)∧(R.2=0∨R.2=120)∧(R.2=0→R.1.2.L.length<R.1.2.most)∧(R.2=120→T.L.length=T.most∧∀q∈T.L,q.1.pins≠0)∧(∀n,findF T.L (n:Nat)=none→findF R.1.2.L (n:Nat)=none∧M' n=M n)∧R.1.2.clock=T.clock∧R.1.2.most=T.most:=by
 rcases hR with⟨h1,rfl⟩ | ⟨h1,h2,rfl⟩ | ⟨h1,q,hq,rfl⟩
 ·exact⟨M,h.mono (by omega),fun _=>rfl,.inl rfl,fun _=>h1,(fun e=>by cases e),fun n hn=>⟨hn,rfl⟩,rfl,rfl⟩
 ·exact⟨M,h.mono (by omega),fun _=>rfl,.inr rfl,fun e=>(by cases e),fun _=>⟨by have:=h.len;omega,h2⟩,fun n hn=>⟨hn,rfl⟩,rfl,rfl⟩
 ·obtain⟨g1,g2,g3,g4,g5,g6⟩:=h.ev hc hq.mem
  have hlen:(remF (backL T.L q.1) q.1.no).length<T.most:=by
   have hb:(backL T.L q.1).map (·.1.no)=T.L.map (·.1.no):=by
    unfold backL;split
    ·rfl
    ·rw[updF_nos]
   have hl:(backL T.L q.1).length=T.L.length:=by have:=congrArg List.length hb;simpa using this
   have hm:q.1.no∈(backL T.L q.1).map (·.1.no):=by rw[hb];exact List.mem_map.2 ⟨q,hq.mem,rfl⟩
   obtain⟨r,hr,e⟩:=List.mem_map.1 hm;have:=rem_len (by rw[hb];exact h.nos) hr
   rw[e,hl]at this;have:=h.len;omega
  refine⟨_,g3,g4,.inl g1,fun _=> ?_,(fun e=>by rw[g1]at e;cases e),fun n hn=> ?_,by rw[g2],by rw[g2]⟩
  ·rw[g2];exact hlen
  ·have hne:n≠q.1.no:=fun e=>by
    rw[e,h.find hq.mem]at hn
    cases hn
   rw[g2];refine⟨?_,?_⟩
   ·show findF (remF (backL T.L q.1) q.1.no) (n:Nat)=none
    rw[findF_rem,if_neg (by omega)]
    unfold backL;split
    ·exact hn
    ·rw[findF_upd,hn];rfl
   ·unfold backM setM;split
    ·rfl
    ·simp only;rw[if_neg hne]
theorem PoI.tick(h:PoI e0 pages c S T M):PoI e0 pages (c+1) S (tickT T) M:=
 ⟨h.lg.mono (by omega),h.pgs,h.p20,h.m20,h.m1,by have:=h.clk;show T.clock+1≤c+1;omega,h.len,h.nos,h.place,fun n=>by have:=h.turn n;omega,h.ahead,fun q hq=>by
  obtain⟨a,b,d⟩:=h.fr q hq;exact⟨a,by omega,d⟩⟩
theorem PoI.touch(h:PoI e0 pages c S T M){q:FrB}(hq:q∈T.L):PoI e0 pages (c+1) S (touchT T q) M∧∀n,curP (touchT T q).L M n=curP T.L M n:=by
 obtain⟨f1,f2,f3,f4,f5,f6⟩:=h.fr q hq;refine⟨(h.mono (Nat.le_succ c)).upd (q:=q) hq (x:={ q.1 with pins:=q.1.pins+1,at_:=T.clock }) rfl ⟨by show q.1.pins+1≤c+1;omega,f3,f4,f5,f6⟩,fun n=> ?_⟩
 unfold touchT
 show curP (updF T.L _) M n=_
 rw[curP_upd _ _ (by show findF T.L (q.1.no:Nat)≠none;rw[h.find hq];simp)]
 split
 ·rename_i e
  have e:n=q.1.no:=e;rw[e,curP_in h hq];rfl
 ·rfl
theorem PoI.add(h:PoI e0 pages c S T M)(hl:T.L.length<T.most){n b:Nat}(hn:n<pages)(hf:findF T.L (n:Nat)=none):PoI e0 pages c S (addT T (newFr n (M n).1 (M n).2) b) M∧∀m,curP (addT T (newFr n (M n).1 (M n).2) b).L M m=curP T.L M m:=by
 obtain⟨s,hs⟩:=h.place n hn;have hno:∀q∈T.L,q.1.no≠n:=fun q hq e=>by have:=findF_none hf q hq;omega
 refine⟨⟨h.lg,h.pgs,h.p20,h.m20,h.m1,h.clk,by show(T.L++[_]).length≤T.most;rw[qla,qls];omega,?_,h.place,h.turn,h.ahead,fun q hq=> ?_⟩,fun m=> ?_⟩
 ·show((T.L++[_]).map _).Nodup
  rw[List.map_append,List.nodup_append];refine⟨h.nos,by simp,fun a ha x hx e=> ?_⟩
  simp only[List.map_cons,List.map_nil,List.mem_singleton]at hx;obtain⟨q,hq,e2⟩:=List.mem_map.1 ha;exact hno q hq (by rw[e2,e,hx];rfl)
 ·rcases qma.1 hq with hq | hq
  ·exact h.fr q hq
  ·obtain rfl:=List.mem_singleton.1 hq;have:=h.ahead n;have:=h.lg.frc;exact⟨hn,Nat.zero_le _,hs.page_ok.1,rfl,fun _=>rfl,by show(M n).1.lsn≤_;omega⟩
 ·unfold curP addT;simp only;rw[findF_add _ _ _ (by exact hf)]
  by_cases e:m=n
  ·subst e;rw[if_pos (by rfl:(m:Int)=((newFr m (M m).1 (M m).2,b).1.no:Int)),hf]
   rfl
  ·rw[if_neg (by show ¬(m:Int)=(n:Nat);omega)]
end
end Go.Proofs.YtdfccegeihfdpaaGreatDoor
