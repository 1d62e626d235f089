/-
  Layer 12, memory: a pool, its frames, its log and its disk. Contracts of layer 12: is, pinned, Unpin, own, Page. Contracts of layer 12: Unpin, own, Page, Change.
-/
import Derived.Test.YtdfccegeihfdpaaGreatDoorAPgG
set_option maxRecDepth 100000
set_option maxHeartbeats 2000000
namespace Go.Proofs.YtdfccegeihfdpaaGreatDoor
open Go Go.RowKit
structure FrP where
 no:Nat
 pins:Nat
 rc:Nat
 stamp:Nat
 lsn:Nat
 cells:Cl
 at_:Nat
def FrP.pg(x:FrP):PgP:=⟨x.lsn,x.cells⟩
def frC(x:FrP)(v:Value):Array Value:=#[.int .i64 (x.no:Nat),.int .i64 (x.pins:Nat),.int .i64 (x.rc:Nat),.int .i64 (x.stamp:Nat),.int .i64 (x.lsn:Nat),v,.int .i64 (x.at_:Nat)]
abbrev FrB:=FrP×Nat
structure PoS where
 pages:Nat
 most:Nat
 clock:Nat
 fm:Nat
 L:List FrB
def findF(L:List FrB)(n:Int):Option FrB:=L.find? fun q=>decide ((q.1.no:Int)=n)
def ptrF(q:FrB):Value:= .pointer (some ⟨q.2,0,none⟩)
def frF(L:List FrB)(n:Int):Option Value:=(findF L n).map ptrF
def updF(L:List FrB)(x:FrP):List FrB:=L.map fun r=>if r.1.no=x.no then (x,r.2) else r
def remF(L:List FrB)(n:Nat):List FrB:=L.filter fun r=>decide (r.1.no≠n)
structure FrAt(w:World)(b:Nat)(x:FrP):Prop where
 ex:∃A c,Blk w b 142 (frC x (.slice A x.cells.length c))∧CellsE w (.slice A x.cells.length c) x.cells
def poolTy:Obj→Bool
 | .cells _ t _=>t == 120 || t == 148 || t == 107 || t == 111 || t == 139 || t == 142
 | .map .. =>true
 | _=>false
def PoolF(bz:Nat)(w:World)(k:Nat):Prop:=bz≤k∧∃o,w.heap[k]? =some o∧poolTy o=true
structure PoolAt(bz:Nat)(w:World)(P:Nat)(p:DkP)(l:Nat)(S:LogS)(T:PoS):Prop where
 log:LogAt bz w l p S
 blk:Blk w P 139 #[.pointer (some ⟨p.d,0,none⟩),.pointer (some ⟨l,0,none⟩),.int .i64 202,.int .i64 (T.pages:Nat),.int .i64 (T.most:Nat),.int .i64 (T.clock:Nat),.map (some T.fm)]
 map:MapIs intK w T.fm (frF T.L)
 fr:∀q∈T.L,FrAt w q.2 q.1
 nd:(T.L.map (·.2)).Nodup
 nos:(T.L.map (·.1.no)).Nodup
 ge:∀q∈T.L,bz≤q.2
 fmge:bz+3≤T.fm
 hP:bz≤P
section
variable {F:Nat→Prop} {w w' a b c:World} {bz k:Nat}
theorem LogF.pool(h:LogF bz w k):PoolF bz w k:=by
 obtain⟨h0,o,h1,h2⟩:=h;refine⟨h0,o,h1,?_⟩
 cases o with
 | cells cs t fz=>
   have e:logTyM (decide (k<bz+3)) (.cells cs t fz)=(t == 120 || t == 148 || t == 107 || t == 111):=rfl;rw[e]at h2
   show(t == 120 || t == 148 || t == 107 || t == 111 || t == 139 || t == 142)=true
   rw[h2];rfl
 | map es ck=>rfl
 | _=>cases h2
theorem PoolF.upd(h:PoolF bz w' k)(hk:k<w.heap.size)(hu:Upd F w w')(hF:¬F k):PoolF bz w k:=by
 obtain⟨h0,o,h1,h2⟩:=h;exact⟨h0,o,(hu.block k hk hF)▸h1,h2⟩
theorem Upd.pools(h:Upd (PoolF bz a) a b)(h':Upd (PoolF bz b) b c):Upd (PoolF bz a) a c:=
 h.trans h' fun _ hk hb=>Classical.byContradiction fun hn=>hn (hb.upd hk h hn)
theorem Upd.log_pool(h:Upd (LogF bz w) w w'):Upd (PoolF bz w) w w':=h.mono fun _ _ hk=>hk.pool
theorem PoolF.noC(w:World):NoC (PoolF bz w) w:=by
 rintro k ⟨_,o,h1,h2⟩ ⟨cs,fz,h3⟩;rw[h1]at h3;injection h3 with h3
 subst h3;rw[show poolTy (.cells cs 155 fz)=false from rfl]at h2
 cases h2
theorem Blk.noPool{g t:Nat}{cs:Array Value}(h:Blk w g t cs)(ht:poolTy (.cells cs t (0,0))=false):¬PoolF bz w g:=by
 rintro⟨_,o,h1,h2⟩;have h':w.heap[g]? =some (.cells cs t (0,0)):=h;rw[h']at h1;injection h1 with h1
 subst h1;rw[ht]at h2
 cases h2
theorem LogF.noC(w:World):NoC (LogF bz w) w:=fun _ hk=>PoolF.noC w _ hk.pool
end
section
variable {F:Nat→Prop} {w w':World} {bz P l:Nat} {p p':DkP} {S S':LogS} {T:PoS}
theorem FrAt.upd{b:Nat}{x:FrP}(h:FrAt w b x)(hu:Upd F w w')(hb:¬F b)(hC:NoC F w):FrAt w' b x:=by
 obtain⟨A,c,h1,h2⟩:=h.ex;exact⟨A,c,h1.upd hu hb,h2.upd hu hC⟩
namespace PoolAt
theorem poolF(h:PoolAt bz w P p l S T):PoolF bz w P:=⟨h.hP,_,h.blk,rfl⟩
theorem fmF(h:PoolAt bz w P p l S T):PoolF bz w T.fm:=by
 obtain⟨es,ck,h1,_⟩:=h.map;exact⟨by have:=h.fmge;omega,_,h1,rfl⟩
theorem frameF(h:PoolAt bz w P p l S T){q:FrB}(hq:q∈T.L):PoolF bz w q.2:=by
 obtain⟨A,c,h1,_⟩:=(h.fr q hq).ex;exact⟨h.ge q hq,_,h1,rfl⟩
theorem upd(h:PoolAt bz w P p l S T)(hu:Upd F w w')(hF:∀k,F k→¬PoolF bz w k)(h8:NoU8 F w)(hC:NoC F w):PoolAt bz w' P p l S T:=
 ⟨h.log.upd hu (fun k hk hl=>hF k hk hl.pool) h8,h.blk.upd hu fun e=>hF _ e h.poolF,h.map.upd hu fun e=>hF _ e h.fmF,fun q hq=>(h.fr q hq).upd hu (fun e=>hF _ e (h.frameF hq)) hC,h.nd,h.nos,h.ge,h.fmge,h.hP⟩
theorem up(h:PoolAt bz w P p l S T)(hu:Upd Nowhere w w'):PoolAt bz w' P p l S T:=h.upd hu (fun _ e=>absurd e id) (fun _ e=>absurd e id) (NoC.nowhere w)
theorem logs(h:PoolAt bz w P p l S T)(hL:LogAt bz w' l p' S')(hd:p'.d=p.d)(hu:Upd (LogF bz w) w w'):PoolAt bz w' P p' l S' T:=by
 refine⟨hL,by rw[hd];exact h.blk.upd hu (h.blk.noLog rfl),h.map.upd hu ?_,fun q hq=>(h.fr q hq).upd hu ?_ (LogF.noC w),h.nd,h.nos,h.ge,h.fmge,h.hP⟩
 ·rintro⟨_,o,h1,h2⟩;obtain⟨es,ck,h3,_⟩:=h.map;rw[h3]at h1;injection h1 with h1
  subst h1;have:=h.fmge;have h4:T.fm<bz+3:=of_decide_eq_true h2;omega
 ·obtain⟨A,c,h1,_⟩:=(h.fr q hq).ex;exact h1.noLog rfl
theorem P_ne(h:PoolAt bz w P p l S T){q:FrB}(hq:q∈T.L):P≠q.2:=by
 obtain⟨A,c,h1,_⟩:=(h.fr q hq).ex;exact h.blk.ne_ h1 (by decide)
theorem fm_ne(h:PoolAt bz w P p l S T){q:FrB}(hq:q∈T.L):T.fm≠q.2:=by
 obtain⟨A,c,h1,_⟩:=(h.fr q hq).ex;exact h.map.ne_blk h1
theorem setBox(h:PoolAt bz w P p l S T)(i:Nat)(u:Value){T':PoS}(h1:T'.fm=T.fm)(h2:T'.L=T.L)(hc:(#[.pointer (some ⟨p.d,0,none⟩),.pointer (some ⟨l,0,none⟩),.int .i64 202,.int .i64 (T.pages:Nat),.int .i64 (T.most:Nat),.int .i64 (T.clock:Nat),.map (some T.fm)]:Array Value).setIfInBounds i u=#[.pointer (some ⟨p.d,0,none⟩),.pointer (some ⟨l,0,none⟩),.int .i64 202,.int .i64 (T'.pages:Nat),.int .i64 (T'.most:Nat),.int .i64 (T'.clock:Nat),.map (some T'.fm)]):PoolAt bz (w.setCell ⟨P,i,none⟩ u) P p l S T':=by
 have hu:=Upd.one w P i u;have hb:=h.blk.set_ i u;rw[hc]at hb;refine⟨h.log.upd hu (fun k e hl=> ?_) (noU8_blk h.blk (by decide)),hb,by rw[h1,h2];exact h.map.upd hu (h.map.ne_blk h.blk),by rw[h2];exact fun q hq=>(h.fr q hq).upd hu (fun e=>h.P_ne hq e.symm) (noC_blk h.blk (by decide)),by rw[h2];exact h.nd,by rw[h2];exact h.nos,by rw[h2];exact h.ge,by rw[h1];exact h.fmge,h.hP⟩
 subst e;exact h.blk.noLog rfl hl
end PoolAt
theorem updF_nos(L:List FrB)(x:FrP):(updF L x).map (·.1.no)=L.map (·.1.no):=by
 unfold updF;rw[List.map_map];refine List.map_congr_left fun r _=> ?_
 simp only[Function.comp];split
 ·rename_i h;exact h.symm
 ·rfl
theorem updF_bs(L:List FrB)(x:FrP):(updF L x).map (·.2)=L.map (·.2):=by
 unfold updF;rw[List.map_map];refine List.map_congr_left fun r _=> ?_
 simp only[Function.comp];split<;>rfl
theorem updF_mem{L:List FrB}{x:FrP}{r:FrB}(h:r∈updF L x):∃r0∈L,r.2=r0.2∧(r0.1.no=x.no∧r.1=x∨r0.1.no≠x.no∧r=r0):=by
 unfold updF at h;obtain⟨r0,h0,rfl⟩:=List.mem_map.1 h;refine⟨r0,h0,?_⟩;by_cases hn:r0.1.no=x.no
 ·rw[if_pos hn];exact⟨rfl,.inl ⟨hn,rfl⟩⟩
 ·rw[if_neg hn];exact⟨rfl,.inr ⟨hn,rfl⟩⟩
theorem frF_upd(L:List FrB)(x:FrP)(n:Int):frF (updF L x) n=frF L n:=by
 unfold frF findF updF
 induction L with
 | nil=>rfl
 | cons r L ih=>
   rw[List.map_cons];by_cases hn:r.1.no=x.no
   ·rw[if_pos hn];by_cases he:(r.1.no:Int)=n
    ·rw[List.find?_cons_of_pos (by simpa [←hn] using he),List.find?_cons_of_pos (by simpa using he)];rfl
    ·rw[List.find?_cons_of_neg (by simpa [←hn] using he),List.find?_cons_of_neg (by simpa using he)];exact ih
   ·rw[if_neg hn];by_cases he:(r.1.no:Int)=n
    ·rw[List.find?_cons_of_pos (by simpa using he),List.find?_cons_of_pos (by simpa using he)]
    ·rw[List.find?_cons_of_neg (by simpa using he),List.find?_cons_of_neg (by simpa using he)];exact ih
theorem findF_some{L:List FrB}{n:Int}{q:FrB}(h:findF L n=some q):q∈L∧(q.1.no:Int)=n:=⟨List.mem_of_find?_eq_some h,by simpa using List.find?_some h⟩
theorem findF_none{L:List FrB}{n:Int}(h:findF L n=none):∀q∈L,(q.1.no:Int)≠n:=fun q hq=>by simpa using List.find?_eq_none.1 h q hq
theorem nos_inj{L:List FrB}(h:(L.map (·.1.no)).Nodup){q r:FrB}(hq:q∈L)(hr:r∈L)(e:q.1.no=r.1.no):q=r:=by
 obtain⟨i,hi,ei⟩:=List.getElem_of_mem hq;obtain⟨j,hj,ej⟩:=List.getElem_of_mem hr;have:i=j:=(List.getElem_inj (xs:=L.map (·.1.no)) (h₀:=by simpa using hi) (h₁:=by simpa using hj) h).1 (by simp[ei,ej,e])
 subst this;rw[←ei,←ej]
theorem bs_inj{L:List FrB}(h:(L.map (·.2)).Nodup){q r:FrB}(hq:q∈L)(hr:r∈L)(e:q.2=r.2):q=r:=by
 obtain⟨i,hi,ei⟩:=List.getElem_of_mem hq;obtain⟨j,hj,ej⟩:=List.getElem_of_mem hr;have:i=j:=(List.getElem_inj (xs:=L.map (·.2)) (h₀:=by simpa using hi) (h₁:=by simpa using hj) h).1 (by simp[ei,ej,e])
 subst this;rw[←ei,←ej]
theorem findF_of{L:List FrB}(h:(L.map (·.1.no)).Nodup){q:FrB}(hq:q∈L):findF L q.1.no=some q:=by
 cases hf:findF L q.1.no with
 | none=>exact absurd rfl (findF_none hf q hq)
 | some r=>
   obtain⟨hr,he⟩:=findF_some hf;rw[nos_inj h hr hq (by omega)]
theorem PoolAt.setFr(h:PoolAt bz w P p l S T){q:FrB}(hq:q∈T.L){x:FrP}(hn:x.no=q.1.no)(hu:Upd (fun k=>k=q.2) w w')(hx:FrAt w' q.2 x):PoolAt bz w' P p l S { T with L:=updF T.L x }:=by
 obtain⟨A,c,h1,_⟩:=(h.fr q hq).ex;refine⟨h.log.upd hu (fun k e hl=> ?_) (noU8_blk h1 (by decide)),h.blk.upd hu (h.P_ne hq),(h.map.upd hu (h.fm_ne hq)).congr fun n=>(frF_upd T.L x n).symm,fun r hr=> ?_,?_,?_,fun r hr=> ?_,h.fmge,h.hP⟩
 ·subst e;exact h1.noLog rfl hl
 ·obtain⟨r0,h0,e2,hc⟩:=updF_mem hr;rw[e2]
  rcases hc with⟨hno,e1⟩ | ⟨hno,e1⟩
  ·have:r0=q:=nos_inj h.nos h0 hq (by rw[hno,hn])
   rw[this,e1];exact hx
  ·rw[e1];exact(h.fr r0 h0).upd hu (fun e=>hno (by rw[bs_inj h.nd h0 hq e,hn])) (noC_blk h1 (by decide))
 ·show((updF T.L x).map (·.2)).Nodup
  rw[updF_bs];exact h.nd
 ·show((updF T.L x).map (·.1.no)).Nodup
  rw[updF_nos];exact h.nos
 ·obtain⟨r0,h0,e2,_⟩:=updF_mem hr;rw[e2];exact h.ge r0 h0
theorem FrAt.set{bl:Nat}{x x':FrP}(h:FrAt w bl x)(j:Nat)(u:Value)(hc:x'.cells=x.cells)(he:∀v,(frC x v).setIfInBounds j u=frC x' v):FrAt (w.setCell ⟨bl,j,none⟩ u) bl x':=by
 obtain⟨A,c,h1,h2⟩:=h.ex;refine⟨A,c,?_,?_⟩
 ·have:=h1.set_ j u;rw[he]at this;rw[hc];exact this
 ·rw[hc];exact h2.upd (Upd.one w bl j u) (noC_blk h1 (by decide))
end
theorem keyI:KeyEnc (.int .i64) intK:=keyInt .i64
def inT(T:PoS)(n:Int):Prop:=0≤n∧n<T.pages
instance (T:PoS) (n:Int):Decidable (inT T n):=inferInstanceAs (Decidable (_∧_))
section
variable {w:World} {bz P l:Nat} {p:DkP} {S:LogS} {T:PoS}
theorem is_ok(h:PoolAt bz w P p l S T)(n:Int):Calls Tryz.prog 76 #[.pointer (some ⟨P,0,none⟩),.int .i64 n] w fun e w'=>e= .returned (.int .i64 (if inT T n then 0 else 1))∧w'=w:=by
 have c3:=h.blk.cell 3;simp only[qA,qZ,qS]at c3;obtain⟨m,hm⟩:∃m,T.pages=m:=⟨_,rfl⟩;rw[hm]at c3;have HM:Hid (T.pages=m):=qh hm;clear h hm;by_cases h0:n<0
 ·have e:¬inT T n:=fun h=>by have:=h.1;omega
  rw[if_neg e];clear e;go_enter Tryz.func76,Tryz.ntmps76
  go_wp2_with fail
  go_ret;exact⟨rfl,rfl⟩
 ·by_cases h1:n<(m:Int)
  ·have e:inT T n:=⟨by omega,by rw[HM.out];exact h1⟩
   rw[if_pos e];clear e;go_enter Tryz.func76,Tryz.ntmps76
   go_wp2_with fail
   go_ret;exact⟨rfl,rfl⟩
  ·have e:¬inT T n:=fun h=>by have:=h.2;rw[HM.out]at this;omega
   rw[if_neg e];clear e;go_enter Tryz.func76,Tryz.ntmps76
   go_wp2_with fail
   go_ret;exact⟨rfl,rfl⟩
theorem zero_ptrF(w:World):(zeroValue 140).run Tryz.prog w= .ok (.pointer none) w:=by kernel_rfl
theorem PoolAt.look(h:PoolAt bz w P p l S T)(n:Int):(Instr.lookup 137 (.map (some T.fm)) (.int .i64 n) false).run Tryz.prog w= .ok (match findF T.L n with | some q=>ptrF q | none=> .pointer none) w:=by
 have h1:=h.map.look keyI Tryz.underlying137 Tryz.underlying3 (zero_ptrF w) n false
 have e:(frF T.L n).getD (.pointer none)=(match findF T.L n with | some q=>ptrF q | none=> .pointer none):=by
  unfold frF
  cases findF T.L n<;>rfl
 rw[e]at h1;exact h1
def pinS(T:PoS)(n:Int):Except Int FrB:=if inT T n then match findF T.L n with
 | some q=>if q.1.pins=0 then .error 121 else .ok q
 | none=> .error 121
 else .error 1
def pinV:Except Int FrB→Value
 | .error e=> .tuple #[.pointer none,.int .i64 e]
 | .ok q=> .tuple #[ptrF q,.int .i64 0]
theorem FrAt.cells{b:Nat}{x:FrP}(h:FrAt w b x):∃A c,w.cell? ⟨b,0,none⟩=some (.int .i64 (x.no:Nat))∧w.cell? ⟨b,1,none⟩=some (.int .i64 (x.pins:Nat))∧w.cell? ⟨b,2,none⟩=some (.int .i64 (x.rc:Nat))∧w.cell? ⟨b,3,none⟩=some (.int .i64 (x.stamp:Nat))∧w.cell? ⟨b,4,none⟩=some (.int .i64 (x.lsn:Nat))∧w.cell? ⟨b,5,none⟩=some (.slice A x.cells.length c)∧w.cell? ⟨b,6,none⟩=some (.int .i64 (x.at_:Nat))∧(∀i,w.frozen? ⟨b,i,none⟩=false)∧CellsE w (.slice A x.cells.length c) x.cells:=by
 obtain⟨A,c,h1,h2⟩:=h.ex;exact⟨A,c,h1.cell 0,h1.cell 1,h1.cell 2,h1.cell 3,h1.cell 4,h1.cell 5,h1.cell 6,h1.frozen,h2⟩
theorem pinned_ok(h:PoolAt bz w P p l S T)(n:Int):Calls Tryz.prog 80 #[.pointer (some ⟨P,0,none⟩),.int .i64 n] w fun e w'=>e= .returned (pinV (pinS T n))∧w'=w:=by
 have HIS:=qh (is_ok h n);have c6:=h.blk.cell 6;simp only[qA,qZ,qS]at c6;have hlk:=h.look n
 have HP:Hid (pinS T n=if inT T n then match findF T.L n with
  | some q=>if q.1.pins=0 then .error 121 else .ok q
  | none=> .error 121
  else .error 1):=qh rfl
 by_cases hin:inT T n
 ·have HIN:=qh hin;have e0:(if inT T n then (0:Int) else 1)=0:=if_pos hin
  rw[e0]at HIS;have hp:=HP.out;rw[if_pos hin]at hp
  cases hf:findF T.L n with
  | none=>
    rw[hf]at hlk hp;simp only at hlk hp;rw[hp];have HLK:=qh hlk;unfold pinV;clear h hp HP hin HIN hf e0 hlk;go_enter Tryz.func80,Tryz.ntmps80
    go_wp2_with fail
    refine HIS.out.mono ?_;rintro e w1 ⟨rfl,rfl⟩;go_wp2_with (refine wpList_lookup_run rfl _ _ _ _ rfl rfl rfl HLK.out ?_)
    go_ret2;exact⟨rfl,rfl⟩
  | some q=>
    rw[hf]at hlk hp;simp only at hlk hp;obtain⟨x,b⟩:=q;obtain⟨A,c,f0,f1,f2,f3,f4,f5,f6,fz,hce⟩:=(h.fr _ (findF_some hf).1).cells;simp only at f1;have HLK:=qh hlk;unfold ptrF at HLK;simp only at HLK;by_cases h0:x.pins=0
    ·rw[if_pos h0]at hp;rw[hp];rw[h0]at f1;have f1':w.cell? ⟨b,1,none⟩=some (.int .i64 0):=f1;unfold pinV;clear h hp HP hin HIN hf e0 hlk f0 f2 f3 f4 f5 f6 fz hce f1 h0;go_enter Tryz.func80,Tryz.ntmps80
     go_wp2_with fail
     refine HIS.out.mono ?_;rintro e w1 ⟨rfl,rfl⟩;go_wp2_with (refine wpList_lookup_run rfl _ _ _ _ rfl rfl rfl HLK.out ?_)
     go_ret2;exact⟨rfl,rfl⟩
    ·rw[if_neg h0]at hp;rw[hp];obtain⟨pn,hpn⟩:∃pn,x.pins=pn:=⟨_,rfl⟩;rw[hpn]at f1 h0;have h0':((pn:Int) == 0)=false:=by simpa using h0
     have h0'':¬(pn:Int)=0:=by omega
     unfold pinV ptrF;simp only;clear h hp HP hin HIN hf e0 hlk f0 f2 f3 f4 f5 f6 fz hce hpn h0;go_enter Tryz.func80,Tryz.ntmps80
     go_wp2_with fail
     refine HIS.out.mono ?_;rintro e w1 ⟨rfl,rfl⟩;go_wp2_with (refine wpList_lookup_run rfl _ _ _ _ rfl rfl rfl HLK.out ?_)
     go_ret2;exact⟨rfl,rfl⟩
 ·have e0:(if inT T n then (0:Int) else 1)=1:=if_neg hin
  rw[e0]at HIS;have hp:=HP.out;rw[if_neg hin]at hp;rw[hp];unfold pinV;clear h hp HP hin e0 hlk;go_enter Tryz.func80,Tryz.ntmps80
  go_wp2_with fail
  refine HIS.out.mono ?_;rintro e w1 ⟨rfl,rfl⟩;go_wp2_with fail
  go_ret2;exact⟨rfl,rfl⟩
end
structure PoB(T:PoS):Prop where
 pages:T.pages≤20
 most:T.most≤20
 clock:T.clock≤1000
 len:T.L.length≤T.most
 fr:∀q∈T.L,q.1.no<T.pages∧q.1.pins≤1000∧q.1.stamp≤1000∧q.1.pg.ok
theorem pinS_ok{T:PoS}{n:Int}{q:FrB}(h:pinS T n= .ok q):q∈T.L∧(q.1.no:Int)=n∧q.1.pins≠0∧findF T.L n=some q:=by
 unfold pinS at h;split at h
 ·split at h
  ·split at h
   ·cases h
   ·rename_i r hf hp
    cases h;exact⟨(findF_some hf).1,(findF_some hf).2,hp,hf⟩
  ·cases h
 ·cases h
def unpinS(T:PoS)(n:Int):PoS×Int:=match pinS T n with
 | .error e=>(T,e)
 | .ok q=>({ T with L:=updF T.L { q.1 with pins:=q.1.pins - 1 } },0)
def PoP(bz P l:Nat)(p:DkP)(S':LogS)(T':PoS)(x:Int)(w:World)(e:Ending)(w':World):Prop:=e= .returned (.int .i64 x)∧PoolAt bz w' P p l S' T'∧Upd (PoolF bz w) w w'
section
variable {w:World} {bz P l:Nat} {p:DkP} {S:LogS} {T:PoS}
theorem pinV_err{e:Int}:pinV (.error e)= .tuple #[.pointer none,.int .i64 e]:=rfl
theorem pinV_ok{x:FrP}{b:Nat}:pinV (.ok (x,b))= .tuple #[.pointer (some ⟨b,0,none⟩),.int .i64 0]:=rfl
theorem pin_err{T:PoS}{n e:Int}(h:pinS T n= .error e):e=121∨e=1:=by
 unfold pinS at h;split at h
 ·split at h
  ·split at h
   ·cases h;exact .inl rfl
   ·cases h
  ·cases h;exact .inl rfl
 ·cases h;exact .inr rfl
theorem unpin_ok(h:PoolAt bz w P p l S T)(hB:PoB T)(n:Int):Calls Tryz.prog 29 #[.pointer (some ⟨P,0,none⟩),.int .i64 n] w (PoP bz P l p S (unpinS T n).1 (unpinS T n).2 w):=by
 have HPN:=qh (pinned_ok h n);have HH:=qh h
 cases hp:pinS T n with
 | error x=>
   have hx:=pin_err hp;have hxb:(x == 0)=false:=by rcases hx with rfl | rfl<;>rfl
   have hu:unpinS T n=(T,x):=by unfold unpinS;rw[hp]
   rw[hp,pinV_err]at HPN;rw[hu];clear h hx hp hu hB;go_enter Tryz.func29,Tryz.ntmps29
   go_wp2_with fail
   refine HPN.out.mono ?_;rintro e w1 ⟨rfl,rfl⟩;go_wp2_with fail
   go_ret;exact⟨rfl,HH.out,Upd.refl _ _⟩
 | ok q=>
   obtain⟨hq,hno,hpins,_⟩:=pinS_ok hp;obtain⟨x,b⟩:=q;obtain⟨A,c,f0,f1,f2,f3,f4,f5,f6,fz,hce⟩:=(h.fr _ hq).cells;have hu:unpinS T n=({ T with L:=updF T.L { x with pins:=x.pins - 1 } },0):=by unfold unpinS;rw[hp]
   rw[hp,pinV_ok]at HPN;rw[hu];have hfr:FrAt (w.setCell ⟨b,1,none⟩ (.int .i64 ((x.pins - 1:Nat):Int))) b { x with pins:=x.pins - 1 }:=(h.fr _ hq).set 1 _ rfl fun v=>rfl
   have HF:=qh (h.setFr hq (x:={ x with pins:=x.pins - 1 }) rfl (Upd.one w b 1 _) hfr)
   have HUP:Hid (Upd (PoolF bz w) w (w.setCell ⟨b,1,none⟩ (.int .i64 ((x.pins - 1:Nat):Int)))):=qh ((Upd.refl _ w).setCell (p:=⟨b,1,none⟩) (fun _=>h.frameF hq) _)
   have hbd:=(hB.fr _ hq).2.1;simp only at f1 hbd hpins;have fz1:=fz 1;have hsub:IntKind.i64.wrap ((x.pins:Int) - 1)=((x.pins - 1:Nat):Int):=by rw[IntKind.wrap_i64];omega
   have hsub2:(x.pins:Int) - 1=((x.pins - 1:Nat):Int):=by omega
   obtain⟨m,hm⟩:∃m,x.pins - 1=m:=⟨_,rfl⟩;rw[hm]at HF HUP hsub hsub2;have hp1:(1:Int)≤(x.pins:Int):=by omega
   have hp2:(x.pins:Int)≤1000:=by omega
   have HM:=qh hm;clear h hp hu hq hfr hbd hpins f0 f2 f3 f4 f5 f6 fz hce hm hB hno;go_enter Tryz.func29,Tryz.ntmps29
   go_wp2_with fail
   refine HPN.out.mono ?_;rintro e w1 ⟨rfl,rfl⟩;go_wp2_with fail
   go_ret;refine⟨rfl,?_,HUP.out⟩;rw[HM.out];exact HF.out
theorem own_ok{w:World}{v:Value}{L:Cl}(h:CellsE w v L)(hl:L.length≤1000)(lsn:Int):Calls Tryz.prog 84 #[.agg #[.int .i64 lsn,v]] w fun e w'=>∃A c,e= .returned (.agg #[.int .i64 lsn,.slice A L.length c])∧OwnC w.heap.size w' (.slice A L.length c) L∧Upd Nowhere w w':=by
 obtain⟨A,c,rfl,hcap⟩:=h.val;have hz1:(w.alloc (.cells #[.int .i64 lsn,.slice A L.length c] 72)).heap.size=w.heap.size+1:=by simp
 have hu:=((Upd.refl Nowhere w).alloc (.cells #[.int .i64 lsn,.slice A L.length c] 72)).alloc (.cells #[.int .i64 0,.slice none 0 0] 72);have hB1:=(Blk.new w 72 #[.int .i64 lsn,.slice A L.length c]).alloc (.cells #[.int .i64 0,.slice none 0 0] 72);have hB2:=Blk.new' (w.alloc (.cells #[.int .i64 lsn,.slice A L.length c] 72)) 72 #[.int .i64 0,.slice none 0 0] hz1.symm;have HC:=qh (h.up hu);have HU:=qh hu;have HB2:=qh hB2;obtain⟨n,hn⟩:∃n,L.length=n:=⟨_,rfl⟩;have HN:=qh hn;rw[hn]at HC HU HB2 hB1 ⊢;have c0:=hB1.cell 0;have c1:=hB1.cell 1;simp only[qA,qZ,qS]at c0 c1;have HL:=qh hl;clear h hz1 hu hB1 hB2 hn hl hcap;go_enter Tryz.func84,Tryz.ntmps84
 go_wp2_with fail
 generalize (w.alloc (.cells #[.int .i64 lsn,.slice A n c] 72)).alloc (.cells #[.int .i64 0,.slice none 0 0] 72)=wA at*;have dd:wA.drew.cell? ⟨w.heap.size,0,none⟩=some (.int .i64 lsn)∧wA.drew.cell? ⟨w.heap.size,1,none⟩=some (.slice A n c):=⟨c0,c1⟩;have hcc:=cclone_ok (HC.out.up (Upd.refl Nowhere wA).drew) HL.out;rw[HN.out]at hcc;have HCC:=qh hcc;have hblt:w.heap.size<wA.drew.heap.size:=by have:=HB2.out.lt;simp at this ⊢;omega
 clear hcc c0 c1
 go_region_held3 (fun w'=>w'.cell? ⟨w.heap.size,0,none⟩=some (.int .i64 lsn)∧w'.cell? ⟨w.heap.size,1,none⟩=some (.slice A n c)) (first | with_reducible exact dd | with_reducible exact k2 | with_reducible exact k3)
  (first
    | (go_at_call 133
       refine HCC.out.mono ?_;rintro e w3 ⟨A3,c3,rfl,hO3,hU3⟩;have k2:w3.cell? ⟨w.heap.size,0,none⟩=some (.int .i64 lsn)∧w3.cell? ⟨w.heap.size,1,none⟩=some (.slice A n c):=⟨(hU3.cell (p:=⟨w.heap.size,0,none⟩) hblt id).trans dd.1,(hU3.cell (p:=⟨w.heap.size,1,none⟩) hblt id).trans dd.2⟩;have hus:=(Upd.one w3 (w.heap.size+1) 0 (.int .i64 lsn)).same (Upd.one _ (w.heap.size+1) 1 (.slice A3 n c3));have hlt3:w.heap.size<w3.heap.size:=Nat.lt_of_lt_of_le hblt hU3.size;have k3:((w3.setCell ⟨w.heap.size+1,0,none⟩ (.int .i64 lsn)).setCell ⟨w.heap.size+1,1,none⟩ (.slice A3 n c3)).cell? ⟨w.heap.size,0,none⟩=some (.int .i64 lsn)∧((w3.setCell ⟨w.heap.size+1,0,none⟩ (.int .i64 lsn)).setCell ⟨w.heap.size+1,1,none⟩ (.slice A3 n c3)).cell? ⟨w.heap.size,1,none⟩=some (.slice A n c):=⟨(hus.cell (p:=⟨w.heap.size,0,none⟩) hlt3 (by simp only;omega)).trans k2.1,(hus.cell (p:=⟨w.heap.size,1,none⟩) hlt3 (by simp only;omega)).trans k2.2⟩
       have hb3:=HB2.out.drew.upd hU3 id;have q0:=hb3.frozen 0;have q1:=hb3.frozen 1;have g0:=hb3.cell 0;have g1:=hb3.cell 1;have HB3:=qh hb3;have HO3:=qh hO3;have HU3:=qh hU3;simp only[qA,qZ,qS]at g0 g1;clear hb3 hO3 hU3))
 all_goals
  go_wp2_with fail
  have hbz:=(HB3.out.set_ 0 (.int .i64 lsn)).set_ 1 (.slice A3 n c3);have s0:=hbz.cell 0;have s1:=hbz.cell 1;simp only[qA,qZ,qS,qsA,qsS,qsZ]at s0 s1
  have hnew:∀k,(Value.slice A3 n c3).ownBlock=some k→w.heap.size≤k∧k≠w.heap.size+1:=fun k hk=>by
   have h1:=HO3.out.new k hk;have h2:=HB2.out.lt;have h3:wA.drew.heap.size=wA.heap.size:=rfl;omega
  have HOF:=qh (((HO3.out.far fun k hk=>(hnew k hk).1).upd (Upd.one _ (w.heap.size+1) 0 (.int .i64 lsn)) fun k hk e=>(hnew k hk).2 e).upd (Upd.one _ (w.heap.size+1) 1 (.slice A3 n c3)) fun k hk e=>(hnew k hk).2 e)
  have HUF:=qh ((((HU.out.drew.same HU3.out)).setCell (p:=⟨w.heap.size+1,0,none⟩) (fun h=>by simp only at h;omega) (.int .i64 lsn)).setCell (p:=⟨w.heap.size+1,1,none⟩) (fun h=>by simp only at h;omega) (.slice A3 n c3))
  refine bodyPost_ret (v:= .agg #[.int .i64 lsn,.slice A3 n c3]) (by simp[results,Tryz.results84,go_sem,s0,s1]) rfl ⟨A3,c3,rfl,?_,HUF.out⟩
  exact HOF.out
end
end Go.Proofs.YtdfccegeihfdpaaGreatDoor
