/-
  The document's pool in memory, beside the program's: the same frames in the same order, the same pages and turns. The document's pool: is, find, pinned, Unpin, Page. The document's pool: Unpin, Page, Copy.
-/
import Derived.Test.YtdfccegeihfdpaaGreatDoorAPkE
set_option maxRecDepth 100000
set_option maxHeartbeats 2000000
namespace Go.Proofs.YtdfccegeihfdpaaGreatDoor
open Go Go.RowKit
def frD(o:FrO):List Value:=[.int .i64 (o.1.no:Nat),.int .i64 (o.1.pins:Nat),.int .i64 (o.1.rc:Nat),.int .i64 (o.1.stamp:Nat),.int .i64 (o.1.lsn:Nat),.slice o.2.1 o.1.cells.length o.2.2,.int .i64 (o.1.at_:Nat)]
theorem frD_len(o:FrO):(frD o).length=7:=rfl
theorem frameD_row:RowK Tryz.prog 89 166 frD 7:=
 ⟨Tryz.underlying89,⟨.agg #[.int .i64 0,.int .i64 0,.int .i64 0,.int .i64 0,.int .i64 0,.slice none 0 0,.int .i64 0],72,by kernel_rfl,rfl,by decide⟩,fun _=>rfl,fun a u h=>by
  simp only[frD,qmc,List.not_mem_nil,or_false]at h
  rcases h with rfl | rfl | rfl | rfl | rfl | rfl | rfl<;>rfl,by decide⟩
abbrev OwnD:=OwnR 166 frD 7
def rfTy:Obj→Bool
 | .cells _ t _=>t == 91 || t == 166 || t == 72 || t == 3
 | _=>false
def RfF(bz:Nat)(w:World)(k:Nat):Prop:=bz≤k∧∃o,w.heap[k]? =some o∧rfTy o=true
structure PagesAt(w:World)(a pages:Nat)(M:DkM):Prop where
 ex:∃arr,Blk w a 72 arr∧∀n,n<pages→∃A c,arr[n * 2]? =some (.int .i64 ((M n).1.lsn:Nat))∧arr[n * 2+1]? =some (.slice A (M n).1.cells.length c)∧CellsE w (.slice A (M n).1.cells.length c) (M n).1.cells
structure TurnsAt(w:World)(b pages:Nat)(M:DkM):Prop where
 ex:∃arr,Blk w b 3 arr∧∀n,n<pages→arr[n]? =some (.int .i64 ((M n).2:Nat))
structure RowD(bz:Nat)(w:World)(v:Value)(os:List FrO):Prop where
 own:OwnD bz w v os
 cells:∀o∈os,CellsE w (slO o) o.1.cells
def boxD(most pages a b:Nat)(v:Value)(la fo ck:Nat):Array Value:=#[.int .i64 (most:Nat),v,.slice (some ⟨a,0,none⟩) pages pages,.slice (some ⟨b,0,none⟩) pages pages,.int .i64 (la:Nat),.int .i64 (fo:Nat),.int .i64 (ck:Nat)]
structure RfAt(bz:Nat)(w:World)(q most pages:Nat)(L:List FrP)(M:DkM)(la fo ck:Nat):Prop where
 ex:∃(v:Value) (a b:Nat) (os:List FrO),Blk w q 91 (boxD most pages a b v la fo ck)∧RowD bz w v os∧os.map (·.1)=L∧PagesAt w a pages M∧TurnsAt w b pages M∧bz≤a∧bz≤b
 hq:bz≤q
section
variable {F:Nat→Prop} {bz:Nat} {w w':World} {q most pages a b:Nat} {L:List FrP} {M:DkM} {la fo ck:Nat} {v:Value} {os:List FrO}
theorem Blk.rfF{k t:Nat}{cs:Array Value}(h:Blk w k t cs)(hk:bz≤k)(ht:rfTy (.cells cs t (0,0))=true):RfF bz w k:=⟨hk,_,h,ht⟩
theorem Blk.noRf{g t:Nat}{cs:Array Value}(h:Blk w g t cs)(ht:rfTy (.cells cs t (0,0))=false):¬RfF bz w g:=by
 rintro⟨_,o,h1,h2⟩;have h':w.heap[g]? =some (.cells cs t (0,0)):=h;rw[h']at h1;injection h1 with h1
 subst h1;rw[ht]at h2
 cases h2
theorem RfF.noC(w:World):NoC (RfF bz w) w:=by
 rintro k ⟨_,o,h1,h2⟩ ⟨cs,fz,h3⟩;rw[h1]at h3;injection h3 with h3
 subst h3;rw[show rfTy (.cells cs 155 fz)=false from rfl]at h2
 cases h2
theorem RfF.noU8(w:World):NoU8 (RfF bz w) w:=by
 rintro k ⟨_,o,h1,h2⟩ ⟨cs,fz,h3⟩;rw[h1]at h3;injection h3 with h3
 subst h3;rw[show rfTy (.cells cs 5 fz)=false from rfl]at h2
 cases h2
theorem RfF.noPool{k:Nat}(h:RfF bz w k):¬PoolF bz w k:=by
 obtain⟨_,o,h1,h2⟩:=h;rintro⟨_,o',h3,h4⟩;rw[h1]at h3;injection h3 with h3
 subst h3
 cases o with
 | cells cs t fz=>
   have e1:(t == 91 || t == 166 || t == 72 || t == 3)=true:=h2;have e2:(t == 120 || t == 148 || t == 107 || t == 111 || t == 139 || t == 142)=true:=h4;simp only[Bool.or_eq_true,beq_iff_eq]at e1
   rcases e1 with((rfl | rfl) | rfl) | rfl<;>exact absurd e2 (by decide)
 | _=>cases h2
theorem PoolF.noRf{k:Nat}(h:PoolF bz w k):¬RfF bz w k:=fun e=>e.noPool h
theorem RfF.upd{k:Nat}(h:RfF bz w' k)(hk:k<w.heap.size)(hu:Upd F w w')(hF:¬F k):RfF bz w k:=by
 obtain⟨h0,o,h1,h2⟩:=h;exact⟨h0,o,(hu.block k hk hF)▸h1,h2⟩
theorem Upd.rfs{x y z:World}(h:Upd (RfF bz x) x y)(h':Upd (RfF bz y) y z):Upd (RfF bz x) x z:=
 h.trans h' fun _ hk hb=>Classical.byContradiction fun hn=>hn (hb.upd hk h hn)
theorem PagesAt.upd(h:PagesAt w a pages M)(hu:Upd F w w')(hF:¬F a)(hC:NoC F w):PagesAt w' a pages M:=by
 obtain⟨arr,h1,h2⟩:=h.ex;refine⟨arr,h1.upd hu hF,fun n hn=> ?_⟩
 obtain⟨A,c,a1,a2,a3⟩:=h2 n hn;exact⟨A,c,a1,a2,a3.upd hu hC⟩
theorem PagesAt.rfF(h:PagesAt w a pages M)(ha:bz≤a):RfF bz w a:=by
 obtain⟨arr,h1,_⟩:=h.ex;exact h1.rfF ha rfl
theorem PagesAt.get(h:PagesAt w a pages M){n:Nat}(hn:n<pages):∃A c,a<w.heap.size∧w.cell? ⟨a,n * 2,none⟩=some (.int .i64 ((M n).1.lsn:Nat))∧w.cell? ⟨a,n * 2+1,none⟩=some (.slice A (M n).1.cells.length c)∧(∀i,w.frozen? ⟨a,i,none⟩=false)∧CellsE w (.slice A (M n).1.cells.length c) (M n).1.cells:=by
 obtain⟨arr,h1,h2⟩:=h.ex;obtain⟨A,c,a1,a2,a3⟩:=h2 n hn;exact⟨A,c,h1.lt,(h1.cell _).trans a1,(h1.cell _).trans a2,h1.frozen,a3⟩
theorem PagesAt.set(h:PagesAt w a pages M){n:Nat}(hn:n<pages)(x:PgP)(t:Nat){A:Option Addr}{c:Nat}(hx:CellsE w (.slice A x.cells.length c) x.cells):PagesAt ((w.setCell ⟨a,n * 2,none⟩ (.int .i64 (x.lsn:Nat))).setCell ⟨a,n * 2+1,none⟩ (.slice A x.cells.length c)) a pages (setM M n (x,t)):=by
 obtain⟨arr,h1,h2⟩:=h.ex;have hs:=(h1.set_ (n * 2) (.int .i64 (x.lsn:Nat))).set_ (n * 2+1) (.slice A x.cells.length c);have hu:=(Upd.one w a (n * 2) (.int .i64 (x.lsn:Nat))).same (Upd.one _ a (n * 2+1) (.slice A x.cells.length c));have hC:NoC (fun k=>k=a) w:=noC_blk h1 (by decide)
 obtain⟨_,_,b1,b2,_⟩:=h2 n hn;have hsz:n * 2+1<arr.size:=(Array.getElem?_eq_some_iff.1 b2).1;refine⟨_,hs,fun m hm=> ?_⟩
 unfold setM;by_cases e:m=n
 ·subst e;rw[if_pos rfl];refine⟨A,c,?_,?_,hx.upd hu hC⟩
  ·rw[Array.getElem?_setIfInBounds_ne (by omega),Array.getElem?_setIfInBounds_self_of_lt (by omega)]
  ·rw[Array.getElem?_setIfInBounds_self_of_lt (by simpa using hsz)]
 ·rw[if_neg e];obtain⟨A',c',a1,a2,a3⟩:=h2 m hm;refine⟨A',c',?_,?_,a3.upd hu hC⟩
  ·rw[Array.getElem?_setIfInBounds_ne (by omega),Array.getElem?_setIfInBounds_ne (by omega)];exact a1
  ·rw[Array.getElem?_setIfInBounds_ne (by omega),Array.getElem?_setIfInBounds_ne (by omega)];exact a2
theorem TurnsAt.upd(h:TurnsAt w b pages M)(hu:Upd F w w')(hF:¬F b):TurnsAt w' b pages M:=by
 obtain⟨arr,h1,h2⟩:=h.ex;exact⟨arr,h1.upd hu hF,h2⟩
theorem TurnsAt.rfF(h:TurnsAt w b pages M)(hb:bz≤b):RfF bz w b:=by
 obtain⟨arr,h1,_⟩:=h.ex;exact h1.rfF hb rfl
theorem TurnsAt.get(h:TurnsAt w b pages M){n:Nat}(hn:n<pages):b<w.heap.size∧w.cell? ⟨b,n,none⟩=some (.int .i64 ((M n).2:Nat))∧∀i,w.frozen? ⟨b,i,none⟩=false:=by
 obtain⟨arr,h1,h2⟩:=h.ex;exact⟨h1.lt,(h1.cell _).trans (h2 n hn),h1.frozen⟩
theorem TurnsAt.set(h:TurnsAt w b pages M){n:Nat}(hn:n<pages)(x:PgP)(t:Nat):TurnsAt (w.setCell ⟨b,n,none⟩ (.int .i64 (t:Nat))) b pages (setM M n (x,t)):=by
 obtain⟨arr,h1,h2⟩:=h.ex;have hsz:n<arr.size:=(Array.getElem?_eq_some_iff.1 (h2 n hn)).1;refine⟨_,h1.set_ n (.int .i64 (t:Nat)),fun m hm=> ?_⟩
 unfold setM;by_cases e:m=n
 ·subst e;rw[if_pos rfl,Array.getElem?_setIfInBounds_self_of_lt hsz]
 ·rw[if_neg e,Array.getElem?_setIfInBounds_ne (by omega)]
  exact h2 m hm
theorem RowD.upd(h:RowD bz w v os)(hu:Upd F w w')(hF:∀k,v.ownBlock=some k→¬F k)(hC:NoC F w):RowD bz w' v os:=⟨h.own.upd hu hF,fun o ho=>(h.cells o ho).upd hu hC⟩
theorem RowD.rfF(h:RowD bz w v os){k:Nat}(hk:v.ownBlock=some k):RfF bz w k:=by
 obtain⟨cs,hcs⟩:=h.own.is_cells hk;exact⟨h.own.new k hk,_,hcs,rfl⟩
theorem RowD.get(h:RowD bz w v os){i:Nat}{o:FrO}(ho:os[i]? =some o):∃g c,v= .slice (some ⟨g,0,none⟩) os.length c∧g<w.heap.size∧(∀j,w.frozen? ⟨g,j,none⟩=false)∧w.cell? ⟨g,i * 7,none⟩=some (.int .i64 (o.1.no:Nat))∧w.cell? ⟨g,i * 7+1,none⟩=some (.int .i64 (o.1.pins:Nat))∧w.cell? ⟨g,i * 7+2,none⟩=some (.int .i64 (o.1.rc:Nat))∧w.cell? ⟨g,i * 7+3,none⟩=some (.int .i64 (o.1.stamp:Nat))∧w.cell? ⟨g,i * 7+4,none⟩=some (.int .i64 (o.1.lsn:Nat))∧w.cell? ⟨g,i * 7+5,none⟩=some (slO o)∧w.cell? ⟨g,i * 7+6,none⟩=some (.int .i64 (o.1.at_:Nat)):=by
 obtain⟨g,off,c,hv,hg,hc⟩:=h.own.els.get frD_len ho;have hne:os≠[]:=by rintro rfl;cases ho
 subst hv;obtain⟨g',e,_⟩:=h.own.addr hne;injection e with e
 injection e with e1 e2 _
 subst e1 e2;obtain⟨cs,hcs⟩:=h.own.is_cells (k:=g) rfl;have hc':∀j,j<7→w.cell? ⟨g,i * 7+j,none⟩=(frD o)[j]? :=fun j hj=>by have:=hc j hj;rwa [Nat.zero_add]at this
 exact⟨g,c,rfl,hg,fun j=>by simp[World.frozen?,hcs],hc' 0 (by omega),hc' 1 (by omega),hc' 2 (by omega),hc' 3 (by omega),hc' 4 (by omega),hc' 5 (by omega),hc' 6 (by omega)⟩
theorem RfAt.upd(h:RfAt bz w q most pages L M la fo ck)(hu:Upd F w w')(hF:∀k,F k→¬RfF bz w k)(hC:NoC F w):RfAt bz w' q most pages L M la fo ck:=by
 obtain⟨v,a,b,os,h1,h2,h3,h4,h5,h6,h7⟩:=h.ex;exact⟨⟨v,a,b,os,h1.upd hu fun e=>hF _ e (h1.rfF h.hq rfl),h2.upd hu (fun k hk e=>hF _ e (h2.rfF hk)) hC,h3,h4.upd hu (fun e=>hF _ e (h4.rfF h6)) hC,h5.upd hu (fun e=>hF _ e (h5.rfF h7)),h6,h7⟩,h.hq⟩
theorem RfAt.up(h:RfAt bz w q most pages L M la fo ck)(hu:Upd Nowhere w w'):RfAt bz w' q most pages L M la fo ck:=h.upd hu (fun _ e=>absurd e id) (NoC.nowhere w)
theorem RfAt.pool(h:RfAt bz w q most pages L M la fo ck)(hu:Upd (PoolF bz w) w w'):RfAt bz w' q most pages L M la fo ck:=h.upd hu (fun _ e=>e.noRf) (PoolF.noC w)
end
section
variable {F:Nat→Prop} {bz:Nat} {w w':World} {q most pages a b g c:Nat} {L:List FrP} {M:DkM} {la fo ck:Nat} {v:Value} {os:List FrO}
theorem Blk.ne_of{k k' t t':Nat}{cs cs':Array Value}(h:Blk w k t cs)(h':Blk w k' t' cs')(ht:t≠t'):¬k=k':=fun e=>by
 subst e;unfold Blk at h h';rw[h]at h';injection h' with h'
 injection h' with _ e2 _
 exact ht e2
theorem PagesAt.ne{k t:Nat}{cs:Array Value}(h:PagesAt w a pages M)(h':Blk w k t cs)(ht:72≠t):¬a=k:=by
 obtain⟨arr,h1,_⟩:=h.ex;exact h1.ne_of h' ht
theorem TurnsAt.ne{k t:Nat}{cs:Array Value}(h:TurnsAt w b pages M)(h':Blk w k t cs)(ht:3≠t):¬b=k:=by
 obtain⟨arr,h1,_⟩:=h.ex;exact h1.ne_of h' ht
theorem RowD.blk(h:RowD bz w (.slice (some ⟨g,0,none⟩) os.length c) os):∃cs,Blk w g 166 cs:=h.own.is_cells rfl
theorem RowD.set1(h:RowD bz w (.slice (some ⟨g,0,none⟩) os.length c) os){i j:Nat}{o o':FrO}{u:Value}(hi:os[i]? =some o)(hj:j<7)(he:frD o'=(frD o).set j u)(hs:slO o'=slO o∧o'.1.cells=o.1.cells):RowD bz (w.setCell ⟨g,i * 7+j,none⟩ u) (.slice (some ⟨g,0,none⟩) (os.set i o').length c) (os.set i o'):=by
 obtain⟨cs,hb⟩:=h.blk;have hC:NoC (fun k=>k=g) w:=noC_blk hb (by decide)
 have hu:=Upd.one w g (i * 7+j) u;refine⟨by rw[List.length_set];exact h.own.setAt frD_len hi hj he,fun o2 ho2=> ?_⟩
 rcases List.mem_or_eq_of_mem_set ho2 with h2 | rfl
 ·exact(h.cells o2 h2).upd hu hC
 ·rw[hs.1,hs.2];exact(h.cells o (qmg hi)).upd hu hC
theorem RfAt.set1(h1:Blk w q 91 (boxD most pages a b (.slice (some ⟨g,0,none⟩) os.length c) la fo ck))(h2:RowD bz w (.slice (some ⟨g,0,none⟩) os.length c) os)(h4:PagesAt w a pages M)(h5:TurnsAt w b pages M)(h6:bz≤a)(h7:bz≤b)(hq:bz≤q){i j:Nat}{o o':FrO}{u:Value}(hi:os[i]? =some o)(hj:j<7)(he:frD o'=(frD o).set j u)(hs:slO o'=slO o∧o'.1.cells=o.1.cells):RfAt bz (w.setCell ⟨g,i * 7+j,none⟩ u) q most pages ((os.map (·.1)).set i o'.1) M la fo ck∧Upd (RfF bz w) w (w.setCell ⟨g,i * 7+j,none⟩ u):=by
 obtain⟨cs,hb⟩:=h2.blk;have hC:NoC (fun k=>k=g) w:=noC_blk hb (by decide)
 have hu:=Upd.one w g (i * 7+j) u;have h3:=h1.upd hu (fun e=>h1.ne_of hb (by decide) e)
 refine⟨⟨⟨_,a,b,os.set i o',?_,h2.set1 hi hj he hs,by rw[List.map_set],h4.upd hu (fun e=>h4.ne hb (by decide) e) hC,h5.upd hu (fun e=>h5.ne hb (by decide) e),h6,h7⟩,hq⟩,hu.mono fun k _ e=>by subst e;exact h2.rfF rfl⟩
 rw[List.length_set];exact h3
theorem RfAt.box(h:RfAt bz w q most pages L M la fo ck)(i:Nat)(u:Int){la' fo' ck':Nat}(hb:∀v a b,(boxD most pages a b v la fo ck).setIfInBounds i (.int .i64 u)=boxD most pages a b v la' fo' ck'):RfAt bz (w.setCell ⟨q,i,none⟩ (.int .i64 u)) q most pages L M la' fo' ck'∧Upd (RfF bz w) w (w.setCell ⟨q,i,none⟩ (.int .i64 u)):=by
 obtain⟨v,a,b,os,h1,h2,h3,h4,h5,h6,h7⟩:=h.ex;have hC:NoC (fun k=>k=q) w:=noC_blk h1 (by decide)
 have hu:=Upd.one w q i (.int .i64 u);have hs:=h1.set_ i (.int .i64 u);rw[hb]at hs
 exact⟨⟨⟨v,a,b,os,hs,h2.upd hu (fun k hk e=>by
  subst e;obtain⟨cs,hcs⟩:=h2.own.is_cells hk;exact absurd rfl (h1.ne_of (t':=166) hcs (by decide))) hC,h3,h4.upd hu (fun e=>h4.ne h1 (by decide) e) hC,h5.upd hu (fun e=>h5.ne h1 (by decide) e),h6,h7⟩,h.hq⟩,hu.mono fun k _ e=>by subst e;exact h1.rfF h.hq rfl⟩
theorem upd_set{K:List FrB}(hn:(K.map (·.1.no)).Nodup){i:Nat}{r:FrB}(hr:K[i]? =some r)(x:FrP)(hx:x.no=r.1.no):(updF K x).map (·.1)=(K.map (·.1)).set i x:=by
 refine List.ext_getElem? fun j=> ?_
 unfold updF;rw[qgm,qgm,List.getElem?_set,qlm,qgm];by_cases e:i=j
 ·subst e;have hl:=(qei.1 hr).1;rw[hr,if_pos rfl,if_pos hl];simp[hx]
 ·rw[if_neg e]
  cases hj:K[j]? with
  | none=>rfl
  | some r'=>
    have:r'.1.no≠x.no:=fun e2=>e (by
     have h1:=(qei.1 hr).1;refine(List.getElem?_inj (l:=K.map (·.1.no)) (by simpa using h1) hn).1 ?_
     rw[qgm,qgm,hr,hj];simp[e2,hx])
    simp[this]
theorem ris_ok(h:RfAt bz w q most pages L M la fo ck)(n:Int):Calls Tryz.prog 138 #[.pointer (some ⟨q,0,none⟩),.int .i64 n] w fun e w'=>e= .returned (.bool (inR pages n))∧w'=w:=by
 obtain⟨v,a,b,os,h1,_⟩:=h.ex;have c2:=h1.cell 2;unfold boxD at c2;simp only[qA,qZ,qS]at c2;clear h h1;unfold inR;by_cases h0:0≤n
 ·go_enter Tryz.func138,Tryz.ntmps138
  go_wp2_with fail
  go_ret;exact⟨by rw[decide_eq_true h0];rfl,rfl⟩
 ·go_enter Tryz.func138,Tryz.ntmps138
  go_wp2_with fail
  go_ret;exact⟨by rw[decide_eq_false (by omega:¬0≤n)];rfl,rfl⟩
def FindD(L:List FrP)(n:Int)(e:Ending):Prop:=(∃(i:Nat) (x:FrP),e= .returned (.int .i64 (i:Nat))∧L[i]? =some x∧(x.no:Int)=n)∨(e= .returned (.int .i64 (-1))∧∀x∈L,(x.no:Int)≠n)
theorem rfind_ok(h:RfAt bz w q most pages L M la fo ck)(n:Int)(hl:L.length≤1000):Calls Tryz.prog 97 #[.pointer (some ⟨q,0,none⟩),.int .i64 n] w fun e w'=>FindD L n e∧w'=w:=by
 obtain⟨v,a,b,os,h1,h2,rfl,_⟩:=h.ex;obtain⟨A,c,rfl,_⟩:=h2.own.els.val;have c1:=h1.cell 1;unfold boxD at c1;simp only[qA,qZ,qS]at c1;obtain⟨ln,hln⟩:∃ln,os.length=ln:=⟨_,rfl⟩;have hlI:(ln:Int)≤1000:=by rw[qlm]at hl;omega
 have HL:=qh hln;have H2:=qh h2;rw[hln]at c1;clear h h1 h2 hl hln;go_enter Tryz.func97,Tryz.ntmps97
 go_wp2_with fail
 go_loopw [5] (fun s5 wr=>∃i:Nat,s5= .int .i64 (i:Int)∧i≤ln∧wr=w∧∀j o,j<i→os[j]? =some o→(o.1.no:Int)≠n) (fun s5 _=>ln - (intOf s5).toNat)
 case atStart=>exact⟨0,rfl,Nat.zero_le _,rfl,fun j o hj=>by omega⟩
 case round=>
  obtain⟨i,rfl,hi,rfl,hno⟩:=hrel;have HNO:=qh hno;by_cases hlt:i<ln
  ·obtain⟨o,ho⟩:∃o,os[i]? =some o:=⟨_,qeg (by rw[HL.out];exact hlt)⟩
   obtain⟨g,c',hv,hg,_,q0,_⟩:=H2.out.get ho
   cases hv;have HO:=qh ho;have hiI:(i:Int)<(ln:Int):=by omega
   obtain⟨nv,hnv⟩:∃nv,o.1.no=nv:=⟨_,rfl⟩;have HNV:=qh hnv;rw[hnv]at q0;clear hno ho hnv;by_cases he:(nv:Int)=n
   ·go_wp2_with fail
    go_ret;exact⟨.inl ⟨i,o.1,rfl,by rw[qgm,HO.out];rfl,by rw[HNV.out];exact he⟩,rfl⟩
   ·go_wp2_with fail
    go_roundw
    case rel=>
     refine⟨i+1,by go_num,by omega,by first | rfl | trivial,fun j o' hj hj2=> ?_⟩
     rcases Nat.lt_succ_iff_lt_or_eq.1 hj with h3 | rfl
     ·exact HNO.out j o' h3 hj2
     ·rw[HO.out]at hj2
      cases hj2;rw[HNV.out];exact he
    case measure=>simp[intOf];omega
  ·have e:i=ln:=by omega
   subst e;have hii:¬(i:Int)<(i:Int):=by omega
   clear hno;go_wp2_with fail
   go_ret;refine⟨.inr ⟨rfl,fun x hx=> ?_⟩,rfl⟩
   obtain⟨o,ho,rfl⟩:=List.mem_map.1 hx;obtain⟨j,hj⟩:=List.getElem?_of_mem ho;exact HNO.out j o (by have:=(qei.1 hj).1;rw[HL.out]at this;exact this) hj
end
abbrev frs(T:PoS):List FrP:=T.L.map (·.1)
section
variable {bz:Nat} {w w':World} {q most pages a b g c:Nat} {T:PoS} {M:DkM} {la fo ck:Nat}
def PinD(T:PoS)(n:Int)(e:Ending):Prop:=
 (∀x,pinS T n= .error x→e= .returned (.tuple #[.int .i64 0,.int .i64 x]))∧(∀r,pinS T n= .ok r→∃i:Nat,e= .returned (.tuple #[.int .i64 (i:Nat),.int .i64 0])∧T.L[i]? =some r)
theorem inR_iff{pages:Nat}{n:Int}:inR pages n=true↔0≤n∧n<(pages:Int):=by
 unfold inR;simp
theorem find_of_D{K:List FrB}(hn:(K.map (·.1.no)).Nodup){i:Nat}{x:FrP}{n:Int}(hi:(K.map (·.1))[i]? =some x)(hx:(x.no:Int)=n):∃r,K[i]? =some r∧r.1=x∧findF K n=some r:=by
 rw[qgm]at hi
 cases hr:K[i]? with
 | none=>rw[hr]at hi;cases hi
 | some r=>
   rw[hr]at hi;simp only[Option.map_some,Option.some.injEq]at hi;subst hi;refine⟨r,rfl,rfl,?_⟩;rw[←hx];exact findF_of hn (qmg hr)
theorem find_none_D{K:List FrB}{n:Int}(h:∀x∈K.map (·.1),(x.no:Int)≠n):findF K n=none:=by
 cases hf:findF K n with
 | none=>rfl
 | some r=>
   obtain⟨h1,h2⟩:=findF_some hf;exact absurd h2 (h _ (List.mem_map.2 ⟨r,h1,rfl⟩))
theorem rpin_ok(h:RfAt bz w q most T.pages (frs T) M la fo ck)(hn:(T.L.map (·.1.no)).Nodup)(hl:T.L.length≤1000)(n:Int):Calls Tryz.prog 142 #[.pointer (some ⟨q,0,none⟩),.int .i64 n] w fun e w'=>PinD T n e∧w'=w:=by
 have HIS:=qh (ris_ok h n);have HFD:=qh (rfind_ok h n (by rw[qlm];exact hl))
 have HH:=qh h;have HN:=qh hn;have hlI:(T.L.length:Int)≤1000:=by omega
 clear h hn hl
 cases hin:inR T.pages n with
 | false=>
   rw[hin]at HIS
   have hni:¬inT T n:=fun e=>by
    have:inR T.pages n=true:=inR_iff.2 ⟨e.1,e.2⟩;rw[hin]at this
    cases this
   have hp:pinS T n= .error 1:=by unfold pinS;rw[if_neg hni]
   have HP:=qh hp;clear hin hni hp HFD;go_enter Tryz.func142,Tryz.ntmps142
   go_wp2_with fail
   refine HIS.out.mono ?_;rintro e w9 ⟨rfl,hw9⟩;obtain rfl:=hw9.symm;go_wp2_with fail
   go_ret2;exact⟨⟨fun x hx=>by rw[HP.out]at hx;cases hx;rfl,fun r hr=>by rw[HP.out]at hr;cases hr⟩,rfl⟩
 | true=>
   rw[hin]at HIS;have hi:=inR_iff.1 hin;have HIN:Hid (inT T n):=qh ⟨hi.1,hi.2⟩;clear hin hi;go_enter Tryz.func142,Tryz.ntmps142
   go_wp2_with fail
   refine HIS.out.mono ?_;rintro e w9 ⟨rfl,hw9⟩;obtain rfl:=hw9.symm;clear HIS;go_wp2_with fail
   refine HFD.out.mono ?_;rintro e w8 ⟨hf,hw8⟩;obtain rfl:=hw8.symm;clear HFD
   rcases hf with⟨i,x,rfl,hix,hxn⟩ | ⟨rfl,hno⟩
   ·obtain⟨r,hr,rfl,hfr⟩:=find_of_D HN.out hix hxn;obtain⟨v,a,b,os,h1,h2,h3,_⟩:=HH.out.ex
    have hio:∃o,os[i]? =some o∧o.1=r.1:=by
     rw[←h3,qgm]at hix
     cases ho:os[i]? with
     | none=>rw[ho]at hix;cases hix
     | some o=>rw[ho]at hix;simp only[Option.map_some,Option.some.injEq]at hix;exact⟨o,rfl,hix⟩
    obtain⟨o,ho,hor⟩:=hio;obtain⟨g,c,rfl,hg,_,q0,q1,_⟩:=h2.get ho;have hlo:os.length=T.L.length:=by have:=congrArg List.length h3;simpa using this
    have c1:=h1.cell 1;unfold boxD at c1;simp only[qA,qZ,qS]at c1;have hiI:(i:Int)<(os.length:Int):=by have:=(qei.1 ho).1;omega
    obtain⟨ln,hln⟩:∃ln,os.length=ln:=⟨_,rfl⟩;rw[hln]at c1 hiI;have hl2:(ln:Int)≤1000:=by omega
    rw[hor]at q1;obtain⟨pv,hpv⟩:∃pv,r.1.pins=pv:=⟨_,rfl⟩;rw[hpv]at q1
    have hA:pv=0→pinS T n= .error 121:=fun h0=>by
     unfold pinS;rw[if_pos HIN.out,hfr];simp only;rw[hpv,if_pos h0]
    have hB:¬pv=0→pinS T n= .ok r:=fun h0=>by
     unfold pinS;rw[if_pos HIN.out,hfr];simp only;rw[hpv,if_neg h0]
    have HR:=qh hr;clear hix hxn hr hfr h1 h2 h3 ho hor hlo hln hpv q0 HH HN HIN;by_cases h0:pv=0
    ·have HP:=qh (hA h0);clear hA hB;subst h0;rw[show((0:Nat):Int)=0 from rfl]at q1;go_wp2_with fail
     go_ret2;exact⟨⟨fun x hx=>by rw[HP.out]at hx;cases hx;rfl,fun r hr=>by rw[HP.out]at hr;cases hr⟩,rfl⟩
    ·have HP:=qh (hB h0);have h2:((pv:Int) == 0)=false:=by simpa using h0
     have h3:decide ((i:Int)<0)=false:=decide_eq_false (by omega)
     clear hA hB h0;go_wp2_with fail
     go_ret2;exact⟨⟨fun x hx=>(by rw[HP.out]at hx;cases hx),fun r' hr'=>by rw[HP.out]at hr';cases hr';exact⟨i,rfl,HR.out⟩⟩,rfl⟩
   ·have hfn:=find_none_D hno
    have HPI:Hid (pinS T n= .error 121):=qh (by
     unfold pinS;rw[if_pos HIN.out,hfn])
    clear hno hfn HH HN HIN;go_wp2_with fail
    go_ret2;exact⟨⟨fun x hx=>by rw[HPI.out]at hx;cases hx;rfl,fun r hr=>by rw[HPI.out]at hr;cases hr⟩,rfl⟩
end
section
variable {bz:Nat} {w w':World} {q most pages:Nat} {T:PoS} {M:DkM} {la fo ck:Nat}
theorem RfAt.at_{L:List FrP}(h:RfAt bz w q most pages L M la fo ck){i:Nat}{x:FrP}(hx:L[i]? =some x):∃(a b:Nat) (os:List FrO) (g c:Nat) (o:FrO),(Blk w q 91 (boxD most pages a b (.slice (some ⟨g,0,none⟩) os.length c) la fo ck)∧RowD bz w (.slice (some ⟨g,0,none⟩) os.length c) os∧os.map (·.1)=L∧PagesAt w a pages M∧TurnsAt w b pages M∧bz≤a∧bz≤b)∧os[i]? =some o∧o.1=x∧os.length=L.length∧i<os.length∧(∀j,w.frozen? ⟨g,j,none⟩=false)∧w.cell? ⟨q,1,none⟩=some (.slice (some ⟨g,0,none⟩) os.length c)∧w.cell? ⟨g,i * 7,none⟩=some (.int .i64 (x.no:Nat))∧w.cell? ⟨g,i * 7+1,none⟩=some (.int .i64 (x.pins:Nat))∧w.cell? ⟨g,i * 7+2,none⟩=some (.int .i64 (x.rc:Nat))∧w.cell? ⟨g,i * 7+3,none⟩=some (.int .i64 (x.stamp:Nat))∧w.cell? ⟨g,i * 7+4,none⟩=some (.int .i64 (x.lsn:Nat))∧w.cell? ⟨g,i * 7+5,none⟩=some (.slice o.2.1 x.cells.length o.2.2)∧w.cell? ⟨g,i * 7+6,none⟩=some (.int .i64 (x.at_:Nat))∧CellsE w (.slice o.2.1 x.cells.length o.2.2) x.cells:=by
 obtain⟨v,a,b,os,h1,h2,h3,h4,h5,h6,h7⟩:=h.ex
 have hio:∃o,os[i]? =some o∧o.1=x:=by
  rw[←h3,qgm]at hx
  cases ho:os[i]? with
  | none=>rw[ho]at hx;cases hx
  | some o=>rw[ho]at hx;simp only[Option.map_some,Option.some.injEq]at hx;exact⟨o,rfl,hx⟩
 obtain⟨o,ho,rfl⟩:=hio;obtain⟨g,c,rfl,hg,hz,q0,q1,q2,q3,q4,q5,q6⟩:=h2.get ho;have c1:=h1.cell 1;unfold boxD at c1;simp only[qA,qZ,qS]at c1;exact⟨a,b,os,g,c,o,⟨h1,h2,h3,h4,h5,h6,h7⟩,ho,rfl,by rw[←h3,qlm],(qei.1 ho).1,hz,c1,q0,q1,q2,q3,q4,q5,q6,h2.cells o (qmg ho)⟩
theorem frs_get{i:Nat}{r:FrB}(hr:T.L[i]? =some r):(frs T)[i]? =some r.1:=by
 unfold frs;rw[qgm,hr];rfl
theorem runpin_ok(h:RfAt bz w q most T.pages (frs T) M la fo ck)(hn:(T.L.map (·.1.no)).Nodup)(hl:T.L.length≤1000)(hp:∀r∈T.L,r.1.pins≤1000)(n:Int):Calls Tryz.prog 87 #[.pointer (some ⟨q,0,none⟩),.int .i64 n] w fun e w'=>e= .returned (.int .i64 (unpinS T n).2)∧RfAt bz w' q most T.pages (frs (unpinS T n).1) M la fo ck∧Upd (RfF bz w) w w':=by
 have HPN:=qh (rpin_ok h hn hl n);have HH:=qh h
 cases hs:pinS T n with
 | error x=>
   have hx:=pin_err hs;have hxb:(x == 0)=false:=by rcases hx with rfl | rfl<;>rfl
   have hu:unpinS T n=(T,x):=by unfold unpinS;rw[hs]
   rw[hu];have HS:=qh hs;clear hs hx hu h hn hl hp;go_enter Tryz.func87,Tryz.ntmps87
   go_wp2_with fail
   refine HPN.out.mono ?_;rintro e w9 ⟨hP,hw9⟩;obtain rfl:=hw9.symm;obtain rfl:=hP.1 x HS.out;clear hP;go_wp2_with fail
   go_ret;exact⟨rfl,HH.out,Upd.refl _ _⟩
 | ok r=>
   obtain⟨hr,hno,hz,hf⟩:=pinS_ok hs;have hpb:=hp r hr;obtain⟨T',hT'⟩:∃T':PoS,{ T with L:=updF T.L { r.1 with pins:=r.1.pins - 1 } }=T':=⟨_,rfl⟩
   have hu:unpinS T n=(T',0):=by unfold unpinS;rw[hs,←hT']
   rw[hu];have HT:=qh hT';clear hT';have HS:=qh hs;have HN:=qh hn;have HL:=qh hl;clear hs hu h hn hl hp hr hno hf;go_enter Tryz.func87,Tryz.ntmps87
   go_wp2_with fail
   refine HPN.out.mono ?_;rintro e w9 ⟨hP,hw9⟩;obtain rfl:=hw9.symm;obtain⟨i,rfl,hi⟩:=hP.2 r HS.out;clear hP;obtain⟨a,b,os,g,c,o,⟨h1,h2,h3,h4,h5,h6,h7⟩,ho,hor,hlo,hio,hfz,c1,q0,q1,_⟩:=HH.out.at_ (frs_get hi);have z1:=hfz (i * 7+1);have hres:=RfAt.set1 h1 h2 h4 h5 h6 h7 HH.out.hq (o':=({ o.1 with pins:=r.1.pins - 1 },o.2)) (u:= .int .i64 ((r.1.pins - 1:Nat):Int)) (j:=1) ho (by omega) rfl ⟨rfl,rfl⟩
   rw[h3]at hres
   have hL:(frs T).set i { o.1 with pins:=r.1.pins - 1 }=frs { T with L:=updF T.L { r.1 with pins:=r.1.pins - 1 } }:=by
    rw[hor];exact(upd_set HN.out hi { r.1 with pins:=r.1.pins - 1 } rfl).symm
   rw[hL]at hres;obtain⟨ln,hln⟩:∃ln,os.length=ln:=⟨_,rfl⟩
   have hl2:(ln:Int)≤1000:=by
    have:=HL.out;unfold frs at hlo;rw[qlm]at hlo;omega
   have hiI:(i:Int)<(ln:Int):=by omega
   rw[hln]at c1;rw[HT.out]at hres;have HR:=qh hres;obtain⟨pv,hpv⟩:∃pv,r.1.pins=pv:=⟨_,rfl⟩;obtain⟨pw,hpw⟩:∃pw,pv - 1=pw:=⟨_,rfl⟩;rw[hpv]at q1 hz hpb HR;rw[hpw]at HR;have e1:(pv:Int) - 1=(pw:Int):=by omega
   have e2:IntKind.i64.wrap ((pv:Int) - 1)=(pw:Int):=by rw[IntKind.wrap_i64];omega
   have e3:(pv:Int)≤1000:=by omega
   have e4:(pw:Int)≤1000:=by omega
   clear h1 h2 h3 h4 h5 h6 h7 ho hor hlo hio hfz hres hL hln hi hpv hpw hz hpb q0 HH HPN;go_wp2_with fail
   go_ret;exact⟨rfl,HR.out⟩
def RpagP(T:PoS)(n:Int)(w:World)(e:Ending)(w':World):Prop:=
 (∀x,pinS T n= .error x→e= .returned (.tuple #[.agg #[.int .i64 0,.slice none 0 0],.int .i64 x]))∧
 (∀r,pinS T n= .ok r→∃A c,e= .returned (.tuple #[.agg #[.int .i64 (r.1.lsn:Nat),.slice A r.1.cells.length c],.int .i64 0])∧CellsE w' (.slice A r.1.cells.length c) r.1.cells)∧Upd Nowhere w w'
theorem rpage_ok(h:RfAt bz w q most T.pages (frs T) M la fo ck)(hn:(T.L.map (·.1.no)).Nodup)(hl:T.L.length≤1000)(n:Int):Calls Tryz.prog 91 #[.pointer (some ⟨q,0,none⟩),.int .i64 n] w (RpagP T n w):=by
 have hua:=(Upd.refl Nowhere w).alloc (.cells #[.int .i64 0,.slice none 0 0] 72);have hb:=Blk.new w 72 #[.int .i64 0,.slice none 0 0];have hA:=h.up hua;have HPN:=qh (rpin_ok hA hn hl n);have HH:=qh hA;have HU:=qh hua;have HL:=qh hl;have z0:=hb.cell 0;have z1:=hb.cell 1;have f0:=hb.frozen 0;have f1:=hb.frozen 1;simp only[qA,qZ,qS]at z0 z1;have HB:=qh hb
 cases hs:pinS T n with
 | error x=>
   have hx:=pin_err hs;have hxb:(x == 0)=false:=by rcases hx with rfl | rfl<;>rfl
   have hxn:¬x=0:=by rcases hx with rfl | rfl<;>decide
   have HS:=qh hs;clear hs hx h hn hl hA hua hb;go_enter Tryz.func91,Tryz.ntmps91
   go_wp2_with fail
   refine HPN.out.mono ?_;rintro e w9 ⟨hP,hw9⟩;obtain rfl:=hw9.symm;obtain rfl:=hP.1 x HS.out;clear hP;go_wp2_with fail
   refine bodyPost_ret (v:= .tuple #[.agg #[.int .i64 0,.slice none 0 0],.int .i64 x]) (by simp[results,Tryz.results91,go_sem,z0,z1]) rfl ⟨fun y hy=>(by rw[HS.out]at hy;cases hy;rfl),fun r hr=>(by rw[HS.out]at hr;cases hr),HU.out⟩
 | ok r=>
   have HS:=qh hs;clear hs h hn hl hA hua hb;go_enter Tryz.func91,Tryz.ntmps91
   go_wp2_with fail
   refine HPN.out.mono ?_;rintro e w9 ⟨hP,hw9⟩;obtain rfl:=hw9.symm;obtain⟨i,rfl,hi⟩:=hP.2 r HS.out;clear hP;obtain⟨a,b,os,g,c,o,⟨h1,h2,h3,h4,h5,h6,h7⟩,ho,hor,hlo,hio,hfz,c1,_,_,_,_,q4,q5,_,hce⟩:=HH.out.at_ (frs_get hi);obtain⟨ln,hln⟩:∃ln,os.length=ln:=⟨_,rfl⟩
   have hl2:(ln:Int)≤1000:=by
    have:=HL.out;unfold frs at hlo;rw[qlm]at hlo;omega
   have hiI:(i:Int)<(ln:Int):=by omega
   rw[hln]at c1;have hu2:=(HU.out.setCell (p:=⟨w.heap.size,0,none⟩) (fun h=>absurd h (Nat.lt_irrefl _)) (.int .i64 (r.1.lsn:Nat))).setCell (p:=⟨w.heap.size,1,none⟩) (fun h=>absurd h (Nat.lt_irrefl _)) (.slice o.2.1 r.1.cells.length o.2.2)
   have hce2:=hce.upd ((Upd.one _ w.heap.size 0 (.int .i64 (r.1.lsn:Nat))).same (Upd.one _ w.heap.size 1 (.slice o.2.1 r.1.cells.length o.2.2))) (noC_blk HB.out (by decide))
   have e9:((w.alloc (.cells #[.int .i64 0,.slice none 0 0] 72)).setCell ⟨w.heap.size,0,none⟩ (.int .i64 (r.1.lsn:Nat))).setCell ⟨w.heap.size,1,none⟩ (.slice o.2.1 r.1.cells.length o.2.2)=w.alloc (.cells #[.int .i64 (r.1.lsn:Nat),.slice o.2.1 r.1.cells.length o.2.2] 72):=by go_simp
   rw[e9]at hu2 hce2;have hset:=Blk.new w 72 #[.int .i64 (r.1.lsn:Nat),.slice o.2.1 r.1.cells.length o.2.2];have y0:=hset.cell 0;have y1:=hset.cell 1;simp only[qA,qZ,qS]at y0 y1;have HU2:=qh hu2;have HCE:=qh hce2;clear h1 h2 h3 h4 h5 h6 h7 ho hor hlo hio hfz hln hi HH HPN hset hu2 hce2 hce HB HU;go_wp2_with fail
   refine bodyPost_ret (v:= .tuple #[.agg #[.int .i64 (r.1.lsn:Nat),.slice o.2.1 r.1.cells.length o.2.2],.int .i64 0]) (by simp[results,Tryz.results91,go_sem,y0,y1]) rfl ⟨fun y hy=>(by rw[HS.out]at hy;cases hy),fun r' hr=>(by rw[HS.out]at hr;cases hr;exact⟨_,_,rfl,HCE.out⟩),HU2.out⟩
end
end Go.Proofs.YtdfccegeihfdpaaGreatDoor
