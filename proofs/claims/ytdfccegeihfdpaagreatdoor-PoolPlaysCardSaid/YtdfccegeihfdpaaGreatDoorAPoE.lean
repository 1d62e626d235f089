/-
  A page's places on a disk: a sector that nothing waits for; put and synced; what the log writes elsewhere leaves it alone (plain Lean, no program in sight). The pool's log where the disk is up: records of one key each, forced now and then, between which pages are saved (plain Lean, no program in sight).
-/
import Derived.Test.YtdfccegeihfdpaaGreatDoorAPoA
import Derived.Test.YtdfccegeihfdpaaGreatDoorAPm5
namespace Go.Proofs.YtdfccegeihfdpaaGreatDoor
open Go
structure Quiet(D:DiskS)(k:Int)(x:Option Bs):Prop where
 now:D.now k=none
 syn:D.syn k=x
section
variable {D:DiskS} {k n:Int} {x:Option Bs} {b:Bs}
theorem Quiet.step(h:Quiet D k x):Quiet D.step k x:=by
 unfold DiskS.step;split
 ·exact⟨h.now,h.syn⟩
 ·exact⟨h.now,h.syn⟩
theorem Quiet.wrote(h:Quiet D k x)(hn:n≠k):Quiet (D.wrote n b) k x:=⟨(putF_other _ (fun e=>hn e.symm) _).trans h.now,h.syn⟩
theorem Quiet.put(h:Quiet D k x)(hn:n≠k):Quiet (D.put n b).1 k x:=by
 unfold DiskS.put;split
 ·exact h
 ·unfold DiskS.write;split
  ·exact h.step
  ·exact h.step.wrote hn
theorem Quiet.flushed(h:Quiet D k x):Quiet D.flushed k x:=by
 refine⟨rfl,?_⟩
 show overF D.now D.syn k=x
 unfold overF;rw[h.now];exact h.syn
theorem Quiet.sync(h:Quiet D k x):Quiet D.sync.1 k x:=by
 unfold DiskS.sync;split
 ·exact h.step
 ·exact h.step.flushed
theorem Quiet.read(h:Quiet D k x):D.read k=x.getD noughtsB:=by
 unfold DiskS.read;rw[h.now,h.syn]
 cases x<;>rfl
theorem Quiet.putsGo(count:Nat)(h0:0<count)(hk:2+(count:Int)≤k):∀(Z:List SheetS) {D:DiskS},Quiet D k x→Quiet (putsGo count Z D).1 k x
 | [],_,h=>h
 | s::l,D,h=>by
   have hm:=Nat.mod_lt s.pos.toNat h0;have hp:Quiet (D.put ((2+s.pos.toNat % count:Nat):Int) s.enc).1 k x:=h.put (by omega)
   unfold Go.Proofs.YtdfccegeihfdpaaGreatDoor.putsGo;split
   ·exact hp
   ·exact Quiet.putsGo count h0 hk l hp
end
theorem LogS.quiet_force{S:LogS}{k:Int}{x:Option Bs}(h:Quiet S.dk k x)(h0:0<S.count)(hk:2+(S.count:Int)≤k):Quiet S.forceS.1.dk k x:=by
 have h1:=Quiet.putsGo S.count h0 hk (S.sheets S.pendB) h;unfold LogS.forceS;split
 ·exact h
 ·dsimp only
  split
  ·exact h1
  ·split
   ·exact h1.sync
   ·exact h1.sync
def slotN(n turn:Nat):Int:=((202+2 * n+turn % 2:Nat):Int)
def SlotIs(D:DiskS)(k:Int):Sl PgP→Prop
 | none=>Quiet D k none
 | some (t,p)=>p.ok∧1≤t∧t≤1099511627776∧∃m:UInt8,1≤m∧m≤3∧Quiet D k (some (wrapB m (payB t p)))
theorem SlotIs.mono{D D':DiskS}{k:Int}{s:Sl PgP}(h:SlotIs D k s)(hq:∀x,Quiet D k x→Quiet D' k x):SlotIs D' k s:=by
 match s,h with
 | none,h=>exact hq _ h
 | some (t,p),h=>
   obtain⟨h1,h2,h3,m,h4,h5,h6⟩:=h;exact⟨h1,h2,h3,m,h4,h5,hq _ h6⟩
theorem SlotIs.get{D:DiskS}{k:Int}{s:Sl PgP}(h:SlotIs D k s):match s with
 | none=>D.get k=none
 | some (t,p)=>D.get k=some (padB 254 (payB t p)):=by
 match s,h with
 | none,h=>
   show openS (D.read k)=none
   rw[h.read];exact noughts_open
 | some (t,p),h=>
   obtain⟨h1,h2,h3,m,h4,h5,h6⟩:=h
   show openS (D.read k)=_
   rw[h6.read];exact openS_wrap h4 h5 (by have:=payB_len h3 h1;omega)
theorem noughtsB_len:noughtsB.length=256:=List.length_replicate
theorem SlotIs.len{D:DiskS}{k:Int}{s:Sl PgP}(h:SlotIs D k s):(D.read k).length=256:=by
 match s,h with
 | none,h=>
   rw[h.read];exact noughtsB_len
 | some (t,p),h=>
   obtain⟨h1,h2,h3,m,h4,h5,h6⟩:=h;rw[h6.read];exact wrapB_len m (by have:=payB_len h3 h1;omega)
theorem padB_pay(t:Nat)(p:PgP):∃r,padB 254 (payB t p)=shortB t++(p.enc++r):=⟨List.replicate (254 - (payB t p).length) 0,by unfold padB payB;rw[qaa]⟩
theorem padB_len{b:Bs}(h:b.length≤254):(padB 254 b).length=254:=by unfold padB;simp;omega
structure PlaceIs(D:DiskS)(n:Nat)(s:Sl PgP×Sl PgP)(q:PgP)(t:Nat):Prop where
 even:SlotIs D (slotN n 0) s.1
 odd:SlotIs D (slotN n 1) s.2
 load:loadS pg0 s.1 s.2=(q,t)
theorem slotN_parity(n t:Nat):slotN n t=slotN n (t % 2):=by unfold slotN;rw[Nat.mod_mod]
def saveS(D:DiskS)(n turn:Nat)(p:PgP):DiskS×Int:=
 if (D.put (slotN n turn) (payB turn p)).2≠0 then D.put (slotN n turn) (payB turn p) else (D.put (slotN n turn) (payB turn p)).1.sync
theorem slotN_ne{n m:Nat}(h:n≠m)(t u:Nat):slotN n t≠slotN m u:=by unfold slotN;omega
theorem slotN_ne'{n t u:Nat}(h:t % 2≠u % 2):slotN n t≠slotN n u:=by unfold slotN;omega
theorem Quiet.save{D:DiskS}{k:Int}{x:Option Bs}(h:Quiet D k x){n turn:Nat}{p:PgP}(hk:slotN n turn≠k):Quiet (saveS D n turn p).1 k x:=by
 unfold saveS;split
 ·exact h.put hk
 ·exact(h.put hk).sync
theorem save_up{D:DiskS}{sz:Nat}{sy:Int}{pl:Nat}(h:DkOK D sz sy pl){n turn:Nat}{p:PgP}(hp:p.ok)(h1:1≤turn)(h2:turn≤1099511627776):(saveS D n turn p).2=0∧DkOK (saveS D n turn p).1 sz (sy+1) 0∧SlotIs (saveS D n turn p).1 (slotN n turn) (some (turn,p)):=by
 have hl:=payB_len h2 hp;have h3:=h.put (slotN n turn) (b:=payB turn p) (by omega)
 have h4:=h3.2.sync;unfold saveS;rw[if_neg (by rw[h3.1];decide)]
 refine⟨h4.1,h4.2,hp,h1,h2,nextMark (D.read (slotN n turn)),(nextMark_ok _).1,(nextMark_ok _).2.1,?_⟩;rw[h3.2.sync_eq];refine⟨rfl,?_⟩;rw[h.put_eq]
 show overF (putF D.now (slotN n turn) (some _)) D.syn (slotN n turn)=_
 unfold overF;rw[putF_same]
theorem PlaceIs.save{D:DiskS}{sz:Nat}{sy:Int}{pl:Nat}(h:DkOK D sz sy pl){n t:Nat}{s:Sl PgP×Sl PgP}{q p:PgP}(hs:PlaceIs D n s q t)(hp:p.ok)(h2:t+1≤1099511627776):PlaceIs (saveS D n (t+1) p).1 n (putS (t+1) (some (t+1,p)) s) p (t+1):=by
 obtain⟨_,_,h3⟩:=save_up h (n:=n) (turn:=t+1) hp (by omega) h2
 have hl:=load_put (e:=pg0) (q:=p) (s:=s) t (by rw[hs.load])
 unfold putS at hl ⊢;by_cases hm:(t+1) % 2=0
 ·rw[if_pos hm]at hl ⊢;rw[slotN_parity,hm]at h3;exact⟨h3,hs.odd.mono fun x hx=>hx.save (slotN_ne' (by omega)),hl⟩
 ·have hm1:(t+1) % 2=1:=by omega
  rw[if_neg hm]at hl ⊢;rw[slotN_parity,hm1]at h3;exact⟨hs.even.mono fun x hx=>hx.save (slotN_ne' (by omega)),h3,hl⟩
theorem PlaceIs.mono{D D':DiskS}{n t:Nat}{s:Sl PgP×Sl PgP}{q:PgP}(h:PlaceIs D n s q t)(hq:∀k x,(k=slotN n 0∨k=slotN n 1)→Quiet D k x→Quiet D' k x):PlaceIs D' n s q t:=
 ⟨h.even.mono fun x=>hq _ x (.inl rfl),h.odd.mono fun x=>hq _ x (.inr rfl),h.load⟩
theorem PlaceIs.force{S:LogS}{n t:Nat}{s:Sl PgP×Sl PgP}{q:PgP}(h:PlaceIs S.dk n s q t)(h0:S.count=200):PlaceIs S.forceS.1.dk n s q t:=
 h.mono fun k x hk hx=>LogS.quiet_force hx (by omega) (by
  rw[h0];unfold slotN at hk
  rcases hk with rfl | rfl<;>omega)
theorem PlaceIs.other{D:DiskS}{n m t u:Nat}{s:Sl PgP×Sl PgP}{q p:PgP}(h:PlaceIs D n s q t)(hn:m≠n):PlaceIs (saveS D m u p).1 n s q t:=
 h.mono fun k x hk hx=>hx.save (by rcases hk with rfl | rfl<;>exact slotN_ne hn _ _)
theorem PlaceIs.fresh{D:DiskS}{n:Nat}(h:∀k:Int,202≤k→Quiet D k none):PlaceIs D n (none,none) pg0 0:=
 ⟨h _ (by unfold slotN;omega),h _ (by unfold slotN;omega),rfl⟩
theorem PlaceIs.page_ok{D:DiskS}{n t:Nat}{s:Sl PgP×Sl PgP}{q:PgP}(h:PlaceIs D n s q t):q.ok∧t≤1099511627776:=by
 have key:∀{k:Int} {o:Sl PgP} (odd:Nat) (b:PgP×Nat),SlotIs D k o→b.1.ok∧b.2≤1099511627776→(pickS odd o b).1.ok∧(pickS odd o b).2≤1099511627776:=by
  intro k o odd b ho hb
  rcases pickS_cases odd o b with⟨e,_⟩ | ⟨t',p',rfl,_,_,e⟩
  ·rw[e];exact hb
  ·rw[e];exact⟨ho.1,ho.2.2.1⟩
 have h1:=key 1 _ h.odd (key 0 (pg0,0) h.even ⟨pg0_ok,by decide⟩)
 have h2:=h.load;unfold loadS at h2;rw[h2]at h1;exact h1
structure PLg(pages c:Nat)(S:LogS):Prop where
 cnt:S.count=200
 mst:S.m=mast2
 frc:S.forced≤S.items.length
 len:S.items.length≤c
 nxt:S.next+pagesN (allB S.pendB).length≤200
 dwn:S.down=false
 fcs:S.forces≤c
 bod:∀x∈S.items,x.1.length≤200
 dk:∃sy:Int,DkOK S.dk (202+2 * pages) sy 0∧0≤sy∧sy≤2+2 * c
section
variable {pages c:Nat} {S:LogS}
theorem PLg.bounds(h:PLg pages c S)(hp:pages≤20)(hc:c≤1000):LogB 2 S:=by
 obtain⟨a1,a2,a3,a4,a5,a6,a7,a8,sy,hd,s1,s2⟩:=h;refine⟨by omega,by rw[a2];decide,by rw[a2];decide,by rw[a2];simp only[mast2];omega,by omega,by rw[a2];decide,by rw[a2];decide,a3,by omega,by omega,fun x hx=>by have:=a8 x hx;omega,?_,by rw[hd.size];omega,by rw[hd.fuse];omega,by rw[hd.syncs];omega,hd.read,by have:=hd.pend;omega⟩
 rw[layAll_fst];unfold pagesN at a5;omega
theorem PLg.mono(h:PLg pages c S){c':Nat}(hc:c≤c'):PLg pages c' S:=by
 obtain⟨a1,a2,a3,a4,a5,a6,a7,a8,sy,hd,s1,s2⟩:=h;exact⟨a1,a2,a3,by omega,a5,a6,by omega,a8,sy,hd,s1,by omega⟩
theorem PLg.add(h:PLg pages c S){b:Bs}(hb:b.length≤200)(hr:S.roomy b 0=true):PLg pages (c+1) (S.add b):=by
 have hp:=S.add_pend b h.frc;obtain⟨a1,a2,a3,a4,a5,a6,a7,a8,sy,hd,s1,s2⟩:=h;refine⟨a1,a2,?_,?_,?_,a6,by show S.forces≤c+1;omega,?_,sy,hd,s1,by omega⟩
 ·simp only[LogS.add,qla];omega
 ·simp only[LogS.add,qla,qls];omega
 ·rw[hp];have h1:=of_decide_eq_true hr;rw[a2]at h1;unfold LogS.need at h1;rw[layAll_fst]at h1;simp only[mast2,LogS.add]at h1 ⊢;rw[a1]at h1;omega
 ·intro x hx
  rcases qma.1 hx with hx | hx
  ·exact a8 x hx
  ·rw[List.mem_singleton.1 hx];exact hb
theorem PLg.force(h:PLg pages c S)(hp:pages≤20)(hc:c≤1000):S.forceS.2=0∧PLg pages (c+1) S.forceS.1∧S.forceS.1.forced=S.items.length∧S.forceS.1.items.length=S.items.length:=by
 by_cases hf:S.forced=S.items.length
 ·have e:S.forceS=(S,0):=by unfold LogS.forceS;rw[if_pos hf]
  rw[e];exact⟨rfl,h.mono (by omega),hf,rfl⟩
 ·have hB:=h.bounds hp hc;obtain⟨a1,a2,a3,a4,a5,a6,a7,a8,sy,hd,s1,s2⟩:=h;obtain⟨D,hD,hok⟩:=hB.forced hd hf;rw[hD]
  have hpe:LogS.pendB { S with dk:=D,items:=placed S.items S.forced S.next (placesB 0 0 S.pendB) (S.items.length - S.forced),forced:=S.items.length,next:=S.next+pagesN (allB S.pendB).length,forces:=S.forces+1 }=[]:=by
   unfold LogS.pendB;simp only;rw[List.drop_of_length_le (by rw[placed_len];exact qlr _)]
   rfl
  refine⟨rfl,⟨a1,a2,by simp only;rw[placed_len];exact qlr _,by simp only;rw[placed_len];omega,?_,a6,by simp only;omega,?_,sy+1,hok,by omega,by omega⟩,rfl,by simp only;rw[placed_len]⟩
  ·rw[hpe];simp only[allB_nil,List.length_nil];unfold pagesN at a5 ⊢;omega
  ·intro x hx;obtain⟨i,hi⟩:=List.getElem?_of_mem hx;simp only at hi;rw[placed_get]at hi
   cases hq:S.items[i]? with
   | none=>rw[hq]at hi;cases hi
   | some y=>
     rw[hq]at hi;simp only[Option.map_some,Option.some.injEq]at hi;have:=a8 y (qmg hq);split at hi
     ·rw[←hi];exact this
     ·rw[←hi];exact this
theorem PLg.save(h:PLg pages c S){n turn:Nat}{p:PgP}(hp:p.ok)(h1:1≤turn)(h2:turn≤1099511627776):(saveS S.dk n turn p).2=0∧PLg pages (c+1) { S with dk:=(saveS S.dk n turn p).1 }:=by
 obtain⟨a1,a2,a3,a4,a5,a6,a7,a8,sy,hd,s1,s2⟩:=h;obtain⟨g1,g2,_⟩:=save_up hd (n:=n) (turn:=turn) hp h1 h2;exact⟨g1,a1,a2,a3,by show S.items.length≤c+1;omega,a5,a6,by show S.forces≤c+1;omega,a8,sy+1,g2,by omega,by omega⟩
theorem PLg.start(pages:Nat):PLg pages 0 ⟨disk2 (202+2 * pages),200,mast2,[],0,0,0,false⟩:=
 ⟨rfl,rfl,qlr _,qlr _,by show 0+pagesN (allB []).length≤200;rw[allB_nil];decide,rfl,qlr _,(fun x hx=>by cases hx),2,(disk2_ok _).2,by omega,by omega⟩
end
theorem disk2_quiet(n:Nat)(k:Int)(hk:202≤k):Quiet (disk2 n) k none:=by
 have h0:Quiet (DiskS.empty n) k none:=⟨rfl,rfl⟩
 have hs:∀{D:DiskS} {m:MastS},Quiet D k none→Quiet (D.save m).1 k none:=fun {D m} h=>by
  have h1:Quiet (D.put (m.gen % 2) m.pay).1 k none:=h.put (by omega)
  unfold DiskS.save;split
  rename_i S1 e he
  rw[he]at h1;split
  ·exact h1
  ·exact h1.sync
 exact hs (hs h0)
end Go.Proofs.YtdfccegeihfdpaaGreatDoor
