/-
  Layer 9: what stands on a disk is read: a log that need not be empty.
-/
import Derived.Test.YtljmmkjdlcfkpaaGreatDoorQWsF
set_option maxRecDepth 100000
set_option maxHeartbeats 8000000
namespace Go.Proofs.YtljmmkjdlcfkpaaGreatDoor
open Go Go.RowKit
def lenOf:Value→Nat
 | .slice _ n _=>n
 | _=>0
def DecZ(b:Bs):Prop:=∀(w:World) (v:Value),BytesE w v b→Calls Tryz.prog 43 #[v] w fun e w'=>∃(r:RecV),e= .returned (.tuple #[.agg r.cells.toArray,.int .i64 0])∧Upd Nowhere w w'
theorem DecTo.z{b:Bs}{x:RecP}(h:DecTo b x):DecZ b:=fun w v hv=>(h w v hv).mono fun e w' h=>by
 obtain⟨s,he,_,hU⟩:=h;exact⟨_,he,hU⟩
structure ReadK(bz:Nat)(w:World)(l:Nat)(p:DkP)(S:LogS)(L:List SheetS)(f:Nat)(inc:Int)(K:List SheetS)(A:Option Addr)(c n:Nat)(wr:World):Prop where
 own:OwnR 93 sheetC 4 w.heap.size wr (.slice A n c) K
 len:K.length=n
 upd:Upd Nowhere w wr
 bl:Blk wr w.heap.size 24 #[.pointer (some ⟨l,0,none⟩)]
 bi:Blk wr (w.heap.size+1) 3 #[.int .i64 inc]
 le:n≤S.count
 go:K++sheetsGo S.dk S.count S.m.inc (S.count - n) inc (f+n)=L
theorem ReadK.exit{bz:Nat}{w:World}{l:Nat}{p:DkP}{S:LogS}{L:List SheetS}{f:Nat}{inc:Int}{K:List SheetS}{A:Option Addr}{c n:Nat}{wr:World}(h:ReadK bz w l p S L f inc K A c n wr)(hn:¬n<S.count):K=L:=by
 have h1:=h.le;have h2:=h.go;rw[show S.count - n=0 by omega]at h2
 unfold sheetsGo at h2
 simpa using h2
theorem ReadK.stop{bz:Nat}{w:World}{l:Nat}{p:DkP}{S:LogS}{L:List SheetS}{f:Nat}{inc:Int}{K:List SheetS}{A:Option Addr}{c n:Nat}{wr:World}(h:ReadK bz w l p S L f inc K A c n wr)(hn:n<S.count)(hp:pageOk S.dk S.count S.m.inc inc (f+n)=none):K=L:=by
 have h2:=h.go;obtain⟨m,hm⟩:∃m,S.count - n=m+1:=⟨S.count - n - 1,by omega⟩
 rw[hm]at h2;unfold sheetsGo at h2;rw[hp]at h2
 simpa using h2
theorem ReadK.go'{bz:Nat}{w:World}{l:Nat}{p:DkP}{S:LogS}{L:List SheetS}{f:Nat}{inc:Int}{K:List SheetS}{A:Option Addr}{c n:Nat}{wr:World}(h:ReadK bz w l p S L f inc K A c n wr)(hn:n<S.count){s:SheetS}(hp:pageOk S.dk S.count S.m.inc inc (f+n)=some s):(K++[s])++sheetsGo S.dk S.count S.m.inc (S.count - (n+1)) s.inc (f+(n+1))=L:=by
 have h2:=h.go;rw[show S.count - n=S.count - (n+1)+1 by omega]at h2
 unfold sheetsGo at h2;rw[hp]at h2;simp only at h2;rw[qaa];exact h2
theorem LogAt.push{bz:Nat}{w:World}{l:Nat}{p:DkP}{S:LogS}(h:LogAt bz w l p S)(r:RecV){A2:Option Addr}{c2:Nat}{b:Bs}(hb:BytesE w (.slice A2 b.length c2) b)(hU8:∀k,(Value.slice A2 b.length c2).ownBlock=some k→U8 w k)(q:Nat)(hn:S.items.length≤90000):
 ∃(A:Option Addr) (c:Nat) (A9:Option Addr) (c9:Nat) (w9:World),w.cell? ⟨l,7,none⟩=some (.slice A S.items.length c)∧
  (Builtin.append_ #[82,82] 82 #[.slice A S.items.length c,.slice (some ⟨w.heap.size,0,none⟩) 1 1]).run Tryz.prog (w.alloc (.cells (itemC ⟨r,(A2,b.length,c2),q⟩).toArray 91))= .ok (.slice A9 (S.items.length+1) c9) w9∧
  w9.cell? ⟨l,7,none⟩=some (.slice A S.items.length c)∧w9.frozen? ⟨l,7,none⟩=false∧l<w9.heap.size∧Upd (LogF bz w) w w9∧(∀i,w9.cell? ⟨l,i,none⟩=w.cell? ⟨l,i,none⟩)∧
  LogAt bz (w9.setCell ⟨l,7,none⟩ (.slice A9 (S.items.length+1) c9)) l p { S with items:=S.items++[(b,q)] }∧Upd (LogF bz w) w (w9.setCell ⟨l,7,none⟩ (.slice A9 (S.items.length+1) c9)):=by
 obtain⟨A,c,its,hbx,hOI,hl,hi⟩:=h.ex;obtain⟨v9,w9,hr9,hO9,hg9,hn9⟩:=item_row.app1 hOI (by have:=h.hl;have:=hbx.lt;omega) 82 ⟨r,(A2,b.length,c2),q⟩ (itemC ⟨r,(A2,b.length,c2),q⟩).toArray (by simp) (by rw[hl];omega)
 obtain⟨A9,c9,rfl,_⟩:=hO9.cap;have hl9:(its++[(⟨r,(A2,b.length,c2),q⟩:ItV)]).length=S.items.length+1:=by rw[qla,hl];rfl
 have hu9:Upd (fun k=>(Value.slice A its.length c).ownBlock=some k) w w9:=(Upd.refl _ w).grown hg9 fun k hk _=>hk
 have hbx9:=hbx.upd hu9 (hOI.blk_ne hbx (by decide))
 have hu10:=Upd.one w9 l 7 (.slice A9 (S.items.length+1) c9);have hne9:(Value.slice A9 (its++[(⟨r,(A2,b.length,c2),q⟩:ItV)]).length c9).ownBlock≠some l:=hO9.blk_ne hbx9 (by decide)
 have h8a:NoU8 (fun k=>(Value.slice A its.length c).ownBlock=some k) w:=fun q e=>hOI.notU8 (by decide) e
 have h8b:NoU8 (fun k=>k=l) w9:=noU8_blk hbx9 (by decide)
 have hdk9:DiskAt w9 p S.dk:=h.dk.upd hu9 fun k hk e=>by
  obtain⟨cs,hcs⟩:=hOI.is_cells e
  rcases hk with e | e | e | e
  ·subst e;have:=h.dk.blk;unfold Blk at this;rw[hcs]at this;injection this with this
   injection this with _ this _
   exact absurd this (by decide)
  ·subst e;exact h.dk.syn.not_cells hcs
  ·subst e;exact h.dk.now.not_cells hcs
  ·obtain⟨cs2,hc2⟩:=h.dk.pend.is_cells e;rw[hcs]at hc2;injection hc2 with this
   injection this with _ this _
   exact absurd this (by decide)
 have hdk10:DiskAt (w9.setCell ⟨l,7,none⟩ (.slice A9 (S.items.length+1) c9)) p S.dk:=hdk9.upd hu10 fun k hk e=>by
  subst e
  rcases hk with e | e | e | e
  ·exact hdk9.blk.ne_ hbx9 (by decide) e.symm
  ·exact hdk9.syn.ne_blk hbx9 e.symm
  ·exact hdk9.now.ne_blk hbx9 e.symm
  ·exact hdk9.pend.blk_ne hbx9 (by decide) e
 have d7:=hbx9.cell 7;simp only[qA,qZ,qS]at d7;have c7:=hbx.cell 7;simp only[qA,qZ,qS]at c7;have hlt9:=hbx9.lt
 have hL10:LogAt bz (w9.setCell ⟨l,7,none⟩ (.slice A9 (S.items.length+1) c9)) l p { S with items:=S.items++[(b,q)] }:=by
  refine⟨⟨A9,c9,its++[⟨r,(A2,b.length,c2),q⟩],?_,hO9.upd hu10 fun k hk e=>hne9 (e▸hk),by simp[hl],fun i y b' q' hy hq=> ?_⟩,hdk10,h.hl,h.pf,h.hz⟩
  ·rw[hl9];exact hbx9.set_ 7 _
  ·simp only at hq;by_cases hi':i<its.length
   ·rw[qal hi']at hy;rw[qal (by rw[←hl];exact hi')]at hq
    obtain⟨h1,h2,h3⟩:=hi i y b' q' hy hq;exact⟨(h1.upd hu9 fun k hk e=>h8a k e (h2 k hk)).upd hu10 fun k hk e=>h8b k e ((h2 k hk).upd hu9 fun e=>h8a k e (h2 k hk)),fun k hk=>((h2 k hk).upd hu9 fun e=>h8a k e (h2 k hk)).upd hu10 fun e=>h8b k e ((h2 k hk).upd hu9 fun e=>h8a k e (h2 k hk)),h3⟩
   ·rw[qar (by omega)]at hy
    rw[qar (by rw[←hl];omega),←hl]at hq
    obtain⟨j,hj⟩:∃j,i - its.length=j:=⟨_,rfl⟩;rw[hj]at hy hq
    cases j with
    | zero=>
      simp only[qZ,Option.some.injEq,Prod.mk.injEq]at hy hq;obtain⟨rfl,rfl⟩:=hq;subst hy;exact⟨(hb.upd hu9 fun k hk e=>h8a k e (hU8 k hk)).upd hu10 fun k hk e=>h8b k e ((hU8 k hk).upd hu9 fun e=>h8a k e (hU8 k hk)),fun k hk=>((hU8 k hk).upd hu9 fun e=>h8a k e (hU8 k hk)).upd hu10 fun e=>h8b k e ((hU8 k hk).upd hu9 fun e=>h8a k e (hU8 k hk)),rfl⟩
    | succ j=>simp at hy
 have hU9:Upd (LogF bz w) w w9:=hu9.mono fun k _ e=>by
  obtain⟨cs,hcs⟩:=hOI.is_cells e;exact⟨hOI.new k e,_,hcs,rfl⟩
 have hU10:Upd (LogF bz w) w (w9.setCell ⟨l,7,none⟩ (.slice A9 (S.items.length+1) c9)):=hU9.setCell (p:=⟨l,7,none⟩) (fun _=>h.box) _
 rw[hl]at c7 d7 hr9;rw[hl9]at hr9;exact⟨A,c,A9,c9,w9,c7,hr9,d7,hbx9.frozen 7,hlt9,hU9,fun i=>(hbx9.cell i).trans (hbx.cell i).symm,hL10,hU10⟩
structure ReadX(bz:Nat)(w:World)(l:Nat)(p:DkP)(S:LogS)(L:List SheetS)(A:Option Addr)(c n:Nat)(wr:World):Prop where
 own:OwnR 93 sheetC 4 w.heap.size wr (.slice A n c) L
 len:L.length=n
 upd:Upd Nowhere w wr
 bl:Blk wr w.heap.size 24 #[.pointer (some ⟨l,0,none⟩)]
structure Read9(bz:Nat)(w:World)(l:Nat)(p:DkP)(S:LogS)(L:List SheetS)(A:Option Addr)(c n f:Nat)(wr:World):Prop where
 own:OwnR 93 sheetC 4 w.heap.size wr (.slice A n c) L
 upd:Upd (LogF bz w) w wr
 bl:Blk wr w.heap.size 24 #[.pointer (some ⟨l,0,none⟩)]
 at_:LogAt bz wr l p { S with next:=f+n }
theorem ReadX.step9{bz:Nat}{w:World}{l:Nat}{p:DkP}{S:LogS}{L:List SheetS}{A:Option Addr}{c n:Nat}{wA:World}(h:ReadX bz w l p S L A c n wA)(hH:LogAt bz w l p S){f:Nat}:Read9 bz w l p S L A c n f (wA.setCell ⟨l,9,none⟩ (.int .i64 ((f+n:Nat):Int))).drew:=by
 have hL:=hH.up h.upd;obtain⟨_,_,_,hbx,_⟩:=hL.ex;have hu:=(Upd.one wA l 9 (.int .i64 ((f+n:Nat):Int))).drew;have hb:=hL.setBox 9 (.int .i64 ((f+n:Nat):Int)) (S':={ S with next:=f+n }) ⟨rfl,rfl⟩ (fun v=>rfl)
 have hl:=hH.lt;refine⟨h.own.upd hu fun k hk e=>h.own.blk_ne hbx (by decide) (e▸hk),?_,h.bl.upd hu (by omega),hb.1.up (Upd.refl _ _).drew⟩
 exact h.upd.any.logs (hb.2.drew)
structure ReadI(bz:Nat)(w:World)(l:Nat)(p:DkP)(S:LogS)(f nx:Nat)(F:List (Bs×Nat))(k:Nat)(wr:World):Prop where
 upd:Upd (LogF bz w) w wr
 bl:Blk wr w.heap.size 24 #[.pointer (some ⟨l,0,none⟩)]
 at_:LogAt bz wr l p { S with next:=nx,items:=placedAt f (F.take k) }
theorem ReadI.up{bz:Nat}{w:World}{l:Nat}{p:DkP}{S:LogS}{f nx k:Nat}{F:List (Bs×Nat)}{wr w':World}(h:ReadI bz w l p S f nx F k wr)(hu:Upd Nowhere wr w'):ReadI bz w l p S f nx F k w':=⟨h.upd.same hu.any,h.bl.upd hu id,h.at_.up hu⟩
theorem ReadI.push{bz:Nat}{w:World}{l:Nat}{p:DkP}{S:LogS}{f nx k:Nat}{F:List (Bs×Nat)}{wr:World}(h:ReadI bz w l p S f nx F k wr){b:Bs}{q:Nat}(hx:F[k]? =some (b,q))(hk:k≤90000)(r:RecV){A2:Option Addr}{c2:Nat}(hb:BytesE wr (.slice A2 b.length c2) b)(hU8:∀k,(Value.slice A2 b.length c2).ownBlock=some k→U8 wr k):
 ∃(A:Option Addr) (c:Nat) (A9:Option Addr) (c9:Nat) (w9:World),wr.cell? ⟨l,7,none⟩=some (.slice A k c)∧
  (Builtin.append_ #[82,82] 82 #[.slice A k c,.slice (some ⟨wr.heap.size,0,none⟩) 1 1]).run Tryz.prog (wr.alloc (.cells (itemC ⟨r,(A2,b.length,c2),f+q⟩).toArray 91))= .ok (.slice A9 (k+1) c9) w9∧
  w9.cell? ⟨l,7,none⟩=some (.slice A k c)∧w9.frozen? ⟨l,7,none⟩=false∧l<w9.heap.size∧Upd (LogF bz wr) wr w9∧(∀i,w9.cell? ⟨l,i,none⟩=wr.cell? ⟨l,i,none⟩)∧ReadI bz w l p S f nx F (k+1) (w9.setCell ⟨l,7,none⟩ (.slice A9 (k+1) c9)):=by
 have hkl:(placedAt f (F.take k)).length=k:=by
  have:=(qei.1 hx).1;simp only[placedAt,qlm,qlt];omega
 obtain⟨A,c,A9,c9,w9,h1,h2,h3,h4,h5,h8,h9,h6,h7⟩:=h.at_.push r hb hU8 (f+q) (by simp only;rw[hkl];omega)
 simp only[hkl]at h1 h2 h3 h6 h7;have hbl:=h.bl.noLog (bz:=bz) rfl;refine⟨A,c,A9,c9,w9,h1,h2,h3,h4,h5,h8,h9,⟨h.upd.logs h7,h.bl.upd h7 hbl,?_⟩⟩
 have e:placedAt f (F.take (k+1))=placedAt f (F.take k)++[(b,f+q)]:=by
  obtain⟨hk',he⟩:=qei.1 hx;rw[show F.take (k+1)=F.take k++[F[k]] from(List.take_append_getElem hk').symm,he];simp[placedAt]
 rw[e];exact h6
theorem Read9.start{bz:Nat}{w:World}{l:Nat}{p:DkP}{S:LogS}{L:List SheetS}{A:Option Addr}{c n f:Nat}{wB w4:World}(h:Read9 bz w l p S L A c n f wB)(hu:Upd Nowhere wB w4)(hit:S.items=[])(F:List (Bs×Nat)):ReadI bz w l p S f (f+n) F 0 w4:=by
 refine⟨h.upd.same hu.any,h.bl.upd hu id,?_⟩;have:=h.at_.up hu;rw[show({ S with next:=f+n,items:=placedAt f (F.take 0) }:LogS)={ S with next:=f+n } by simp[hit,placedAt]]
 exact this
theorem ReadK.grow{bz:Nat}{w:World}{l:Nat}{p:DkP}{S:LogS}{L:List SheetS}{f:Nat}{inc:Int}{K:List SheetS}{A:Option Addr}{c n:Nat}{wr:World}(h:ReadK bz w l p S L f inc K A c n wr)(hn:n<S.count)(hc:S.count≤300){si sp sf:Int}{sd:Bs}(hp:pageOk S.dk S.count S.m.inc inc (f+n)=some ⟨si,sp,sf,sd⟩):
 ∃(A9:Option Addr) (c9:Nat) (w9:World),(Builtin.append_ #[85,85] 85 #[.slice A n c,.slice (some ⟨wr.heap.size+1,0,none⟩) 1 1]).run Tryz.prog (((wr.setCell ⟨w.heap.size+1,0,none⟩ (.int .i64 si)).alloc (.cells #[.int .i64 si,.int .i64 sp,.int .i64 sf,strV sd] 93)).alloc (.cells #[.int .i64 si,.int .i64 sp,.int .i64 sf,strV sd] 93))= .ok (.slice A9 (n+1) c9) w9∧
  ReadK bz w l p S L f si (K++[⟨si,sp,sf,sd⟩]) A9 c9 (n+1) w9:=by
 have hu1:=Upd.one wr (w.heap.size+1) 0 (.int .i64 si);have hO1:=(h.own.upd hu1 fun k hk e=>h.own.blk_ne h.bi (by decide) (e▸hk)).alloc (.cells #[.int .i64 si,.int .i64 sp,.int .i64 sf,strV sd] 93)
 have hu2:Upd (fun k=>k=w.heap.size+1) wr ((wr.setCell ⟨w.heap.size+1,0,none⟩ (.int .i64 si)).alloc (.cells #[.int .i64 si,.int .i64 sp,.int .i64 sf,strV sd] 93)):=hu1.alloc _
 have hsz:((wr.setCell ⟨w.heap.size+1,0,none⟩ (.int .i64 si)).alloc (.cells #[.int .i64 si,.int .i64 sp,.int .i64 sf,strV sd] 93)).heap.size=wr.heap.size+1:=by simp
 obtain⟨v9,w9,hr9,hO9,hg9,hn9⟩:=sheet_row.app1 hO1 (by rw[hsz];have:=h.upd.size;omega) 85 ⟨si,sp,sf,sd⟩ #[.int .i64 si,.int .i64 sp,.int .i64 sf,strV sd] rfl (by rw[h.len];omega)
 obtain⟨A9,c9,rfl,_⟩:=hO9.cap;have hl9:(K++[(⟨si,sp,sf,sd⟩:SheetS)]).length=n+1:=by rw[qla,h.len];rfl
 rw[hl9,hsz]at hr9;rw[hl9]at hO9;have hu9:Upd (fun k=>(Value.slice A n c).ownBlock=some k) ((wr.setCell ⟨w.heap.size+1,0,none⟩ (.int .i64 si)).alloc (.cells #[.int .i64 si,.int .i64 sp,.int .i64 sf,strV sd] 93)) w9:=(Upd.refl _ _).grown hg9 fun k hk _=>hk
 have hbi1:=(h.bi.set_ 0 (.int .i64 si)).alloc (.cells #[.int .i64 si,.int .i64 sp,.int .i64 sf,strV sd] 93);have hbl1:=h.bl.upd hu2 (by omega)
 refine⟨A9,c9,w9,hr9,⟨hO9,hl9,?_,hbl1.upd hu9 (hO1.blk_ne hbl1 (by decide)),hbi1.upd hu9 (hO1.blk_ne hbi1 (by decide)),by omega,h.go' hn hp⟩⟩
 exact(h.upd.trans hu2 fun k hk e=>by omega).trans hu9 fun k hk e=>by
  have:=h.own.new k e;omega
def ReadP(bz:Nat)(w:World)(l:Nat)(p:DkP)(S:LogS)(f:Nat)(L:List SheetS)(e:Ending)(w':World):Prop:=
 e= .returned (.int .i64 0)∧LogAt bz w' l p { S with next:=f+L.length,items:=placedAt f (findB L),forced:=(findB L).length }∧Upd (LogF bz w) w w'
theorem readn_ok{bz:Nat}{w:World}{l:Nat}{p:DkP}{S:LogS}(h:LogAt bz w l p S)(hc:8≤S.count)(hc2:S.count≤300)(hs:S.count+2≤S.dk.size)(hd:S.dk.down=false)(hl:∀n:Int,(S.dk.read n).length=256)(hit:S.items=[])(hfo:S.forced=0)(f:Nat)(hf:S.m.first=(f:Int))(hfl:f≤1000000){L:List SheetS}(hL:sheetsGo S.dk S.count S.m.inc S.count 0 f=L)
 (hdt:∀s∈L,s.data.length≤242) (hdz:∀x∈findB L,DecZ x.1∧x.1.length≤4096∧x.2≤300) (hbn:(findB L).length≤20000) (hW:HalfW w):
 Calls Tryz.prog 57 #[.pointer (some ⟨l,0,none⟩)] w (ReadP bz w l p S f L):=by
 have hU0:=((Upd.refl Nowhere w).alloc (.cells #[.pointer (some ⟨l,0,none⟩)] 24)).alloc (.cells #[.int .i64 0] 3);have hz1:(w.alloc (.cells #[.pointer (some ⟨l,0,none⟩)] 24)).heap.size=w.heap.size+1:=by simp
 have hB1:=(Blk.new w 24 #[.pointer (some ⟨l,0,none⟩)]).alloc (.cells #[.int .i64 0] 3);have hB2:=Blk.new' (w.alloc (.cells #[.pointer (some ⟨l,0,none⟩)] 24)) 3 #[.int .i64 0] hz1.symm;have hRK:ReadK bz w l p S L f 0 [] none 0 0 ((w.alloc (.cells #[.pointer (some ⟨l,0,none⟩)] 24)).alloc (.cells #[.int .i64 0] 3)):=⟨OwnR.nil _ _ _ _ _,rfl,hU0,hB1,hB2,Nat.zero_le _,by rw[←hL];rfl⟩
 have hltw:=h.lt;have HRK:=qh hRK;have HH:=qh h;have HC:=qh hc;have HC2:=qh hc2;have HS:=qh hs;have HD:=qh hd;have HL:=qh hl;have HIT:=qh hit;have HFO:=qh hfo;have HF:=qh hf;have HDT:=qh hdt;have HDZ:=qh hdz;have HBN:=qh hbn;have HW:=qh hW;have hcf:=cf_read1;have hfI:(f:Int)≤1000000:=by omega
 obtain⟨count,hcount⟩:∃n,S.count=n:=⟨_,rfl⟩;have HCN:=qh hcount;clear h hc hc2 hs hd hl hit hfo hf hfl hL hdt hdz hbn hW hU0 hz1 hB1 hB2 hRK hcount;go_enter Tryz.func57,Tryz.ntmps57
 go_wp2_with fail
 generalize (w.alloc (.cells #[.pointer (some ⟨l,0,none⟩)] 24)).alloc (.cells #[.int .i64 0] 3)=w1 at*;go_loopw [3] (fun s3 wr=>∃(A:Option Addr) (c n:Nat) (K:List SheetS) (inc:Int),s3= .slice A n c∧ReadK bz w l p S L f inc K A c n wr) (fun s3 _=>count - lenOf s3)
 case atStart=>exact⟨none,0,0,[],0,rfl,HRK.out⟩
 case round=>
  obtain⟨A,c,n,K,inc,rfl,hK⟩:=hrel;have hLr:=HH.out.up hK.upd;obtain⟨Ai,ci,its,hbx,hO,hlen,_⟩:=hLr.ex;have hlt:=hbx.lt;have e1:=hbx.cell 1;have e4:=hbx.cell 4;have f9:=hbx.frozen 9;have b1:=hK.bl.cell 0;simp only[qA,qZ,qS,HF.out,HCN.out]at e1 e4 b1;have hrd:=read1_ok hLr HC.out HC2.out HS.out HD.out HL.out inc hK.bl hK.bi (f+n) (by have:=hK.le;have:=HC2.out;omega)
  rw[show((f+n:Nat):Int)=(f:Int)+(n:Int) by omega]at hrd
  have hnI:(n:Int)≤300:=by have:=hK.le;have:=HC2.out;omega
  have hblt:=hK.bl.lt;have hilt:=hK.bi.lt;have HK:=qh hK;have HRD:=qh hrd;clear hK hLr hbx hO hlen hrd;by_cases hn:n<count
  ·have hnc:(n:Int)<(count:Int):=by omega
   go_wp2_with fail
   refine HRD.out.mono ?_;rintro e w2 ⟨⟨si,sp,sf,sd⟩,b,rfl,ht,hfa,hU2⟩;have hK2:ReadK bz w l p S L f inc K A c n w2:=⟨HK.out.own.upd hU2 fun _ _=>id,HK.out.len,HK.out.upd.same hU2,HK.out.bl.upd hU2 id,HK.out.bi.upd hU2 id,HK.out.le,HK.out.go⟩
   have HK2:=qh hK2;have HT:=qh ht;have HFA:=qh hfa;clear hK2 ht hfa e1 e4 f9 b1 hU2 HRD HK;unfold SheetS.arr;simp only
   cases b with
   | true=>
     have hpg:=HT.out rfl;have HPG:=qh hpg;have i0:=HK2.out.bi.cell 0;have j0:=HK2.out.bi.frozen 0;have il:=HK2.out.bi.lt;simp only[qA,qZ]at i0;obtain⟨A9,c9,w9,hr9,hK9⟩:=HK2.out.grow (by rw[HCN.out];exact hn) HC2.out hpg
     have HR9:=qh hr9;have HK9:=qh hK9;have HN:=qh hn;clear hpg hr9 hK9 hn;go_wp2_with (first | (refine wpList_append_run rfl _ _ _ rfl rfl rfl HR9.out ?_))
     go_roundw
     case rel=>exact⟨A9,c9,n+1,_,si,rfl,HK9.out⟩
     case measure=>
      have:=HN.out;simp only[lenOf];omega
   | false=>
     have hKL:=HK2.out.stop (by rw[HCN.out];exact hn) (HFA.out rfl)
     have hX:ReadX bz w l p S L A c n (w2.alloc (.cells #[.int .i64 si,.int .i64 sp,.int .i64 sf,strV sd] 93)):=⟨hKL▸HK2.out.own.alloc _,by rw[←hKL];exact HK2.out.len,HK2.out.upd.alloc _,HK2.out.bl.alloc _⟩
     have HX:=qh hX;clear hKL hX;go_upto_region 11 with(fail)
     generalize w2.alloc (.cells #[.int .i64 si,.int .i64 sp,.int .i64 sf,strV sd] 93)=wA at*;have hLA:=HH.out.up HX.out.upd;have HXL:=qh HX.out.len;obtain⟨Ai,ci,its,hbx,hO,hlen,_⟩:=hLA.ex;have hlt:=hbx.lt;have e4:=hbx.cell 4;have c9:=hbx.cell 9;have f9:=hbx.frozen 9;have b1:=HX.out.bl.cell 0;have hblt:=HX.out.bl.lt;simp only[qA,qZ,qS,HF.out]at e4 b1 c9;clear hbx hO hlen hLA;go_region
     all_goals
      have hI:=HX.out.step9 HH.out (f:=f);rw[show((f+n:Nat):Int)=(f:Int)+(n:Int) by omega]at hI
      have hb2:=hI.bl;have hfi:=find_ok (w:=(wA.setCell ⟨l,9,none⟩ (.int .i64 ((f:Int)+(n:Int)))).drew) (v:= .slice A n c) (l:=L) hI.own.els (by rw[HX.out.len];omega) HDT.out (HW.out.logs HH.out.hz (hI.upd))
      obtain⟨M,hM⟩:∃M,(findB L).length=M:=⟨_,rfl⟩;rw[hM]at hfi;have hMI:(M:Int)≤20000:=by have:=HBN.out;omega
      have HFI:=qh hfi;have HM:=qh hM;have HI:=qh hI;clear hI hb2 hfi hM e4 c9 f9 b1;go_wp2_with fail
      generalize (wA.setCell ⟨l,9,none⟩ (.int .i64 ((f:Int)+(n:Int)))).drew=wB at*;refine HFI.out.mono ?_;rintro e w4 ⟨A4,c4,rfl,hO4,hU4⟩;have HO4:=qh hO4;have HI4:=qh (HI.out.start hU4 HIT.out (findB L));have hb4:=HI4.out.bl.cell 0;have hbl4:=HI4.out.bl.lt;simp only[qA,qZ]at hb4;have HO4:=qh hO4;clear hO4 hU4 HFI HI hb4;go_wp2_with fail
      go_loopw [60] (fun s60 wr=>∃k:Nat,s60= .int .i64 (k:Int)∧k≤M∧ReadI bz w l p S f (f+n) (findB L) k wr∧OwnR 101 foundC 2 wB.heap.size wr (.slice A4 M c4) (findB L)) (fun s60 _=>M - (intOf s60).toNat)
      case atStart=>exact⟨0,rfl,Nat.zero_le _,HI4.out,HO4.out⟩
      case round=>
       obtain⟨k,rfl,hk,hIk,hEk⟩:=hrel;by_cases hkM:k<M
       ·have hkI:(k:Int)<(M:Int):=by omega
        have hkI2:(k:Int)≤20000:=by omega
        have hx:(findB L)[k]? =some ((findB L)[k]'(by rw[HM.out];exact hkM)):=qeg _
        generalize (findB L)[k]'(by rw[HM.out];exact hkM)=x at hx
        obtain⟨b,q⟩:=x;obtain⟨hdz,hbl,hq3⟩:=HDZ.out _ (qmg hx);obtain⟨g,off,cc,hsl,hg,hgc⟩:=hEk.els.get (cells:=foundC) (fun _=>rfl) hx
        injection hsl with hsl1 hsl2 hsl3
        subst hsl1;have u0:=hgc 0 (by omega)
        have u1:=hgc 1 (by omega)
        simp only[foundC,Nat.add_zero,qZ,qS]at u0 u1;have b1:=hIk.bl.cell 0;have hbl1:=hIk.bl.lt;simp only[qA,qZ]at b1;have hz1:(wr.alloc (.cells #[strV b,.int .i64 (q:Int)] 101)).heap.size=wr.heap.size+1:=by simp
        have hI1:=hIk.up ((Upd.refl _ wr).alloc (.cells #[strV b,.int .i64 (q:Int)] 101));have hE1:=hEk.alloc (.cells #[strV b,.int .i64 (q:Int)] 101);have hF1:=Blk.new wr 101 #[strV b,.int .i64 (q:Int)];obtain⟨c5,w5,hrun5,hE5,hU5,hsz5,_⟩:=conv_bytes (wr.alloc (.cells #[strV b,.int .i64 (q:Int)] 101)) b;rw[hz1]at hrun5 hE5;have hdec:=hdz w5 _ hE5;have HRUN5:=qh hrun5;have HDEC:=qh hdec;have HI5:=qh (hI1.up hU5);have HE5:=qh (hE1.upd hU5 fun _ _=>id)
        have HF5:=qh (hF1.upd hU5 id);have HX:=qh hx;have HKM:=qh hkM;have HBL:=qh hbl;have hq3I:(q:Int)≤300:=by omega
        have hU5z:=hU5.size;clear hx hkM hbl hdz hgc hIk hEk hz1 hI1 hE1 hF1 hrun5 hE5 hU5 hsz5 hdec hsl2 hsl3 hk hq3;go_wp2_with (first | (refine wpList_conv_run rfl 9 77 _ rfl rfl HRUN5.out ?_))
        refine HDEC.out.mono ?_;rintro e w6 ⟨r,rfl,hU6⟩;have HI6:=qh (HI5.out.up hU6);have HE6:=qh (HE5.out.upd hU6 fun _ _=>id)
        have HF6:=qh (HF5.out.upd hU6 id);have hone:=r.cells_one;have hl16:r.cells.length=16:=r.cells_len;have HISR:Hid ((Tryz.prog.info? 38).map (·.size)=some r.cells.length):=qh (by rw[hl16];exact rec_size)
        have hz16:zeroA.size=r.cells.length:=by rw[hl16];rfl
        unfold zeroA at hz16;have HZS:=qh hz16;have HONE:=qh hone;clear hone hl16 hz16 hU6 HDEC HRUN5 HI5 HE5 HF5 u0 u1 b1 hbl1 hU5z;go_upto_region 17 with(first | (refine wpList_store_new rfl 38 _ _ rfl rfl rfl HISR.out HZS.out HONE.out ?_))
        generalize hw7:w6.alloc (.cells r.cells.toArray 38)=w7 at*;have hB7:Blk w7 w6.heap.size 38 r.cells.toArray:=hw7▸Blk.new w6 38 r.cells.toArray;have hU67:Upd Nowhere w6 w7:=hw7▸(Upd.refl Nowhere w6).alloc _;clear hw7;generalize w6.heap.size=g7 at*;have hI7:=HI6.out.up hU67;have hF7:=HF6.out.upd hU67 id;obtain⟨c8,w8,hrun8,hE8,hU8,hsz8,cs8,fz8,h88⟩:=conv_bytes w7.drew b;have hU78:Upd Nowhere w7 w8:=((Upd.refl Nowhere w7).drew).same hU8;have hI8:=hI7.up hU78;have hE8':BytesE w8 (.slice (some ⟨w7.heap.size,0,none⟩) b.length c8) b:=hE8;have hrun8':(convert 9 77 (strV b)).run Tryz.prog w7.drew= .ok (.slice (some ⟨w7.heap.size,0,none⟩) b.length c8) w8:=hrun8
        obtain⟨A0,c0,A9,c9',w9,q7,hr9,r7,g7f,hl9,hU9,hc9,hI9⟩:=hI8.push HX.out (by omega) r hE8' (fun k hk=>by
         have:w7.heap.size=k:=by simpa [Value.ownBlock] using hk
         subst this;exact⟨_,_,h88⟩)
        have hbi:=build_item3 r (some ⟨w7.heap.size,0,none⟩,b.length,c8) (f+q);have hbs:=build_row1 ⟨r,(some ⟨w7.heap.size,0,none⟩,b.length,c8),f+q⟩;have hF8:=hF7.upd hU78 id
        have HNF:Hid (wr.heap.size≠l):=qh (by
         obtain⟨_,_,_,hb,_⟩:=hI8.at_.ex;exact hF8.ne_ hb (by decide))
        have hB8:=hB7.upd hU78 id
        have HNB:Hid (g7≠l):=qh (by
         obtain⟨_,_,_,hb,_⟩:=hI8.at_.ex;exact hB8.ne_ hb (by decide))
        have hz8:w8.heap.size=w7.heap.size+1:=hsz8;obtain⟨_,_,_,hbx7,_⟩:=hI7.at_.ex;obtain⟨_,_,_,hbx8,_⟩:=hI8.at_.ex;have p4:=hbx7.cell 4;have s4:=hbx8.cell 4;have p7:=(hU78.cell (p:=⟨l,7,none⟩) hbx7.lt id).symm.trans q7;have pb:=hI7.bl.cell 0;have sb:=hI8.bl.cell 0;have pf0:=hF7.cell 0;have pf1:=hF7.cell 1;have sf0:=hF8.cell 0;have sf1:=hF8.cell 1;simp only[qA,qZ,qS,HF.out]at p4 s4 pb sb pf0 pf1 sf0 sf1;have hnum:((f+q:Nat):Int)=(f:Int)+(q:Int):=by omega
        have L1:=hI7.bl.lt;have L2:=hbx7.lt;have L3:=hF7.lt;have L4:=hbx8.lt;have L5:=hI8.bl.lt
        obtain⟨v0,v1,v2,v3,v4,v5,v6,v7,v8,v9,v10,v11,v12,v13,v14,v15,hvs⟩:∃v0 v1 v2 v3 v4 v5 v6 v7 v8 v9 v10 v11 v12 v13 v14 v15,r.cells=[v0,v1,v2,v3,v4,v5,v6,v7,v8,v9,v10,v11,v12,v13,v14,v15]:=by
         obtain⟨rk,rt,rp,rn,ry,roh,rod,rnh,rnd,rco,rme,rlo,rro,rdi,rde,rpa⟩:=r;exact⟨_,_,_,_,_,_,_,_,_,_,_,_,_,_,_,_,rfl⟩
        have hics:itemC ⟨r,(some ⟨w7.heap.size,0,none⟩,b.length,c8),f+q⟩=[v0,v1,v2,v3,v4,v5,v6,v7,v8,v9,v10,v11,v12,v13,v14,v15,.slice (some ⟨w7.heap.size,0,none⟩) b.length c8,.int .i64 ((f:Int)+(q:Int))]:=by
         unfold itemC;rw[hvs,←hnum];rfl
        rw[hics]at hr9 hbi hbs;rw[hvs,hnum]at hbi;rw[hvs]at hB7 hB8 ⊢;have hS:∀W,Blk W w.heap.size 24 #[.pointer (some ⟨l,0,none⟩)]→W.cell? ⟨l,4,none⟩=some (.int .i64 (f:Int))→Blk W wr.heap.size 101 #[strV b,.int .i64 (q:Int)]→Blk W g7 38 #[v0,v1,v2,v3,v4,v5,v6,v7,v8,v9,v10,v11,v12,v13,v14,v15]→W.cell? ⟨w.heap.size,0,none⟩=some (.pointer (some ⟨l,0,none⟩))∧W.cell? ⟨l,4,none⟩=some (.int .i64 (f:Int))∧W.cell? ⟨wr.heap.size,0,none⟩=some (strV b)∧W.cell? ⟨wr.heap.size,1,none⟩=some (.int .i64 (q:Int))∧W.cell? ⟨g7,0,none⟩=some v0∧W.cell? ⟨g7,1,none⟩=some v1∧W.cell? ⟨g7,2,none⟩=some v2∧W.cell? ⟨g7,3,none⟩=some v3∧W.cell? ⟨g7,4,none⟩=some v4∧W.cell? ⟨g7,5,none⟩=some v5∧W.cell? ⟨g7,6,none⟩=some v6∧W.cell? ⟨g7,7,none⟩=some v7∧W.cell? ⟨g7,8,none⟩=some v8∧W.cell? ⟨g7,9,none⟩=some v9∧W.cell? ⟨g7,10,none⟩=some v10∧W.cell? ⟨g7,11,none⟩=some v11∧W.cell? ⟨g7,12,none⟩=some v12∧W.cell? ⟨g7,13,none⟩=some v13∧W.cell? ⟨g7,14,none⟩=some v14∧W.cell? ⟨g7,15,none⟩=some v15:=fun W h1 h2 h3 h4=>⟨h1.cell 0,h2,h3.cell 0,h3.cell 1,h4.cell 0,h4.cell 1,h4.cell 2,h4.cell 3,h4.cell 4,h4.cell 5,h4.cell 6,h4.cell 7,h4.cell 8,h4.cell 9,h4.cell 10,h4.cell 11,h4.cell 12,h4.cell 13,h4.cell 14,h4.cell 15⟩
        have k7:=hS w7.drew hI7.bl.drew p4 hF7.drew hB7.drew;have k8:=hS w8 hI8.bl s4 hF8 hB8;have ka:=hS _ (hI8.bl.alloc (.cells #[v0,v1,v2,v3,v4,v5,v6,v7,v8,v9,v10,v11,v12,v13,v14,v15,.slice (some ⟨w7.heap.size,0,none⟩) b.length c8,.int .i64 ((f:Int)+(q:Int))] 91)) (((Upd.refl Nowhere w8).alloc (.cells #[v0,v1,v2,v3,v4,v5,v6,v7,v8,v9,v10,v11,v12,v13,v14,v15,.slice (some ⟨w7.heap.size,0,none⟩) b.length c8,.int .i64 ((f:Int)+(q:Int))] 91)).cell (p:=⟨l,4,none⟩) hbx8.lt id |>.trans s4) (hF8.alloc _) (hB8.alloc _);have k9:=hS w9 (hI8.bl.upd hU9 (hI8.bl.noLog rfl)) ((hc9 4).trans s4) (hF8.upd hU9 (hF8.noLog rfl)) (hB8.upd hU9 (hB8.noLog rfl));have hr9':(Builtin.append_ #[82,82] 82 #[.slice A0 k c0,.slice (some ⟨w7.heap.size+1,0,none⟩) 1 1]).run Tryz.prog (w8.alloc (.cells #[v0,v1,v2,v3,v4,v5,v6,v7,v8,v9,v10,v11,v12,v13,v14,v15,.slice (some ⟨w7.heap.size,0,none⟩) b.length c8,.int .i64 ((f:Int)+(q:Int))] 91))= .ok (.slice A9 (k+1) c9') w9:=by rw[hz8]at hr9;exact hr9
        have s7:=((Upd.refl Nowhere w8).alloc (.cells #[v0,v1,v2,v3,v4,v5,v6,v7,v8,v9,v10,v11,v12,v13,v14,v15,.slice (some ⟨w7.heap.size,0,none⟩) b.length c8,.int .i64 ((f:Int)+(q:Int))] 91)).cell (p:=⟨l,7,none⟩) hbx8.lt id;have HR9:=qh hr9';have HI9:=qh hI9;have HE9:=qh (((HE6.out.upd hU67 fun _ _=>id).upd hU78 fun _ _=>id).logs (fun _ _=>rfl) (hU9.setCell (p:=⟨l,7,none⟩) (fun _=>hI8.at_.box) (.slice A9 (k+1) c9')))
        have hwr:IntKind.i64.wrap ((f:Int)+(q:Int))=(f:Int)+(q:Int):=by rw[IntWalk.i64_in _ (by omega)]
        have kz:=hS _ ((hI8.bl.upd hU9 (hI8.bl.noLog rfl)).far (p:=⟨l,7,none⟩) (show w.heap.size≠l by omega) (.slice A9 (k+1) c9')) (by rw[World.cell?_setCell_other _ _ _ _ (by simp)];exact(hc9 4).trans s4) ((hF8.upd hU9 (hF8.noLog rfl)).far (p:=⟨l,7,none⟩) HNF.out (.slice A9 (k+1) c9')) ((hB8.upd hU9 (hB8.noLog rfl)).far (p:=⟨l,7,none⟩) HNB.out (.slice A9 (k+1) c9'))
        clear hS hU9 hc9 p4 s4 pb sb pf0 pf1 sf0 sf1 hics hr9 hr9' hrun8 hI9 hE8 hE8' hU8 hsz8 h88 hU78 hI7 hI8 hF7 hF8 hB7 hB8 hbx7 hbx8 hU67 HI6 HE6 HF6 hvs HZS HONE HISR;refine wp_region_noPanic ?_;refine wp_region_held_drew (S:=(fun W=>W.cell? ⟨w.heap.size,0,none⟩=some (.pointer (some ⟨l,0,none⟩))∧W.cell? ⟨l,4,none⟩=some (.int .i64 (f:Int))∧W.cell? ⟨wr.heap.size,0,none⟩=some (strV b)∧W.cell? ⟨wr.heap.size,1,none⟩=some (.int .i64 (q:Int))∧W.cell? ⟨g7,0,none⟩=some v0∧W.cell? ⟨g7,1,none⟩=some v1∧W.cell? ⟨g7,2,none⟩=some v2∧W.cell? ⟨g7,3,none⟩=some v3∧W.cell? ⟨g7,4,none⟩=some v4∧W.cell? ⟨g7,5,none⟩=some v5∧W.cell? ⟨g7,6,none⟩=some v6∧W.cell? ⟨g7,7,none⟩=some v7∧W.cell? ⟨g7,8,none⟩=some v8∧W.cell? ⟨g7,9,none⟩=some v9∧W.cell? ⟨g7,10,none⟩=some v10∧W.cell? ⟨g7,11,none⟩=some v11∧W.cell? ⟨g7,12,none⟩=some v12∧W.cell? ⟨g7,13,none⟩=some v13∧W.cell? ⟨g7,14,none⟩=some v14∧W.cell? ⟨g7,15,none⟩=some v15)) (by kernel_rfl) ?_ (fun hHeld=> ?_)
        ·exact k7
        refine wpAnyH_take (i:=0) (v:= ?_) (by simp only[qA,qZ];rfl) (by kernel_rfl) (by kernel_rfl) (by kernel_rfl) (fun _ _ _ h=>h) (Or.inl ⟨by rfl,?_⟩) (by assumption) ?_
        rotate_left 1
        ·intro w hSw
         try dsimp only at hSw
         go_simp
         all_goals with_reducible rfl
        try simp only[Act.put,qsA,qsZ,qsS]
        refine wpAnyH_take (i:=1) (v:= ?_) (by simp only[qA,qZ,qS];rfl) (by kernel_rfl) (by kernel_rfl) (by kernel_rfl) (fun _ _ _ h=>h) (Or.inl ⟨by rfl,?_⟩) (by assumption) ?_
        rotate_left 1
        ·intro w hSw
         try dsimp only at hSw
         go_simp
         all_goals with_reducible rfl
        try simp only[Act.put,qsA,qsZ,qsS]
        refine wpAnyH_take (i:=2) (v:= ?_) (by simp only[qA,qZ,qS];rfl) (by kernel_rfl) (by kernel_rfl) (by kernel_rfl) (fun _ _ _ h=>h) (Or.inl ⟨by rfl,?_⟩) (by assumption) ?_
        rotate_left 1
        ·intro w hSw
         try dsimp only at hSw
         go_simp
         all_goals with_reducible rfl
        try simp only[Act.put,qsA,qsZ,qsS]
        refine wpAnyH_take (i:=3) (v:= ?_) (by simp only[qA,qZ,qS];rfl) (by kernel_rfl) (by kernel_rfl) (by kernel_rfl) (fun _ _ _ h=>h) (Or.inl ⟨by rfl,?_⟩) (by assumption) ?_
        rotate_left 1
        ·intro w hSw
         try dsimp only at hSw
         go_simp
         all_goals with_reducible rfl
        try simp only[Act.put,qsA,qsZ,qsS]
        refine wpAnyH_take (i:=5) (v:= ?_) (by simp only[qA,qZ,qS];rfl) (by kernel_rfl) (by kernel_rfl) (by kernel_rfl) (fun _ _ _ h=>h) (Or.inl ⟨by rfl,?_⟩) (by assumption) ?_
        rotate_left 1
        ·intro w hSw
         try dsimp only at hSw
         go_simp
         all_goals with_reducible rfl
        try simp only[Act.put,qsA,qsZ,qsS]
        refine wpAnyH_take (i:=6) (v:= ?_) (by simp only[qA,qZ,qS];rfl) (by kernel_rfl) (by kernel_rfl) (by kernel_rfl) (fun _ _ _ h=>h) (Or.inl ⟨by rfl,?_⟩) (by assumption) ?_
        rotate_left 1
        ·intro w hSw
         try dsimp only at hSw
         go_simp
         all_goals with_reducible rfl
        try simp only[Act.put,qsA,qsZ,qsS]
        refine wpAnyH_take (i:=7) (v:= ?_) (by simp only[qA,qZ,qS];rfl) (by kernel_rfl) (by kernel_rfl) (by kernel_rfl) (fun _ _ _ h=>h) (Or.inl ⟨by rfl,?_⟩) (by assumption) ?_
        rotate_left 1
        ·intro w hSw
         try dsimp only at hSw
         go_simp
         all_goals with_reducible rfl
        try simp only[Act.put,qsA,qsZ,qsS]
        refine wpAnyH_take (i:=9) (v:= ?_) (by simp only[qA,qZ,qS];rfl) (by kernel_rfl) (by kernel_rfl) (by kernel_rfl) (fun _ _ _ h=>h) (Or.inl ⟨by rfl,?_⟩) (by assumption) ?_
        rotate_left 1
        ·intro w hSw
         try dsimp only at hSw
         go_simp
         all_goals with_reducible rfl
        try simp only[Act.put,qsA,qsZ,qsS]
        refine wpAnyH_take (i:=10) (v:= ?_) (by simp only[qA,qZ,qS];rfl) (by kernel_rfl) (by kernel_rfl) (by kernel_rfl) (fun _ _ _ h=>h) (Or.inl ⟨by rfl,?_⟩) (by assumption) ?_
        rotate_left 1
        ·intro w hSw
         try dsimp only at hSw
         go_simp
         all_goals with_reducible rfl
        try simp only[Act.put,qsA,qsZ,qsS]
        refine wpAnyH_take (i:=11) (v:= ?_) (by simp only[qA,qZ,qS];rfl) (by kernel_rfl) (by kernel_rfl) (by kernel_rfl) (fun _ _ _ h=>h) (Or.inl ⟨by rfl,?_⟩) (by assumption) ?_
        rotate_left 1
        ·intro w hSw
         try dsimp only at hSw
         go_simp
         all_goals with_reducible rfl
        try simp only[Act.put,qsA,qsZ,qsS]
        refine wpAnyH_take (i:=12) (v:= ?_) (by simp only[qA,qZ,qS];rfl) (by kernel_rfl) (by kernel_rfl) (by kernel_rfl) (fun _ _ _ h=>h) (Or.inl ⟨by rfl,?_⟩) (by assumption) ?_
        rotate_left 1
        ·intro w hSw
         try dsimp only at hSw
         go_simp
         all_goals with_reducible rfl
        try simp only[Act.put,qsA,qsZ,qsS]
        refine wpAnyH_take (i:=13) (v:= ?_) (by simp only[qA,qZ,qS];rfl) (by kernel_rfl) (by kernel_rfl) (by kernel_rfl) (fun _ _ _ h=>h) (Or.inl ⟨by rfl,?_⟩) (by assumption) ?_
        rotate_left 1
        ·intro w hSw
         try dsimp only at hSw
         go_simp
         all_goals with_reducible rfl
        try simp only[Act.put,qsA,qsZ,qsS]
        refine wpAnyH_take (i:=14) (v:= ?_) (by simp only[qA,qZ,qS];rfl) (by kernel_rfl) (by kernel_rfl) (by kernel_rfl) (fun _ _ _ h=>h) (Or.inl ⟨by rfl,?_⟩) (by assumption) ?_
        rotate_left 1
        ·intro w hSw
         try dsimp only at hSw
         go_simp
         all_goals with_reducible rfl
        try simp only[Act.put,qsA,qsZ,qsS]
        refine wpAnyH_take (i:=15) (v:= ?_) (by simp only[qA,qZ,qS];rfl) (by kernel_rfl) (by kernel_rfl) (by kernel_rfl) (fun _ _ _ h=>h) (Or.inl ⟨by rfl,?_⟩) (by assumption) ?_
        rotate_left 1
        ·intro w hSw
         try dsimp only at hSw
         go_simp
         all_goals with_reducible rfl
        try simp only[Act.put,qsA,qsZ,qsS]
        refine wpAnyH_take (i:=16) (v:= ?_) (by simp only[qA,qZ,qS];rfl) (by kernel_rfl) (by kernel_rfl) (by kernel_rfl) (fun _ _ _ h=>h) (Or.inl ⟨by rfl,?_⟩) (by assumption) ?_
        rotate_left 1
        ·intro w hSw
         try dsimp only at hSw
         go_simp
         all_goals with_reducible rfl
        try simp only[Act.put,qsA,qsZ,qsS]
        refine wpAnyH_ready (rs:=[4,8]) (by kernel_rfl) (by simp) ?_
        refine AllReadyH.cons (i:=4) (by simp only[qA,qZ,qS];rfl) (fun K hK=> ?_) ?_
        ·go_simp
         refine hK.out _ _ ?_ (fun hHeld=> ?_)
         ·exact k7
         clear hK K
         try simp only[Act.put,qsA,qsZ,qsS]
         refine wpAnyH_ready (rs:=[8]) (by kernel_rfl) (by simp) ?_
         refine AllReadyH.cons (i:=8) (by simp only[qA,qZ,qS];rfl) (fun K hK=> ?_) ?_
         ·go_simp
          refine hK.out _ _ ?_ (fun hHeld=> ?_)
          ·exact k8
          clear hK K
          try simp only[Act.put,qsA,qsZ,qsS]
          refine wpAnyH_take (i:=17) (v:= ?_) (by simp only[qA,qZ,qS];rfl) (by kernel_rfl) (by kernel_rfl) (by kernel_rfl) (fun _ _ _ h=>h) (Or.inl ⟨by rfl,?_⟩) (by assumption) ?_
          rotate_left 1
          ·intro w hSw
           try dsimp only at hSw
           go_simp
           all_goals with_reducible rfl
          try simp only[Act.put,qsA,qsZ,qsS]
          refine wpAnyH_ready (rs:=[18]) (by kernel_rfl) (by simp) ?_
          refine AllReadyH.cons (i:=18) (by simp only[qA,qZ,qS];rfl) (fun K hK=> ?_) ?_
          ·go_simp
           refine hK.out _ _ ?_ (fun hHeld=> ?_)
           ·exact ka
           clear hK K
           try simp only[Act.put,qsA,qsZ,qsS]
           refine wpAnyH_ready (rs:=[19]) (by kernel_rfl) (by simp) ?_
           refine AllReadyH.cons (i:=19) (by simp only[qA,qZ,qS];rfl) (fun K hK=> ?_) ?_
           ·refine step_append_run rfl _ _ _ rfl rfl rfl HR9.out ?_;refine hK.out _ _ ?_ (fun hHeld=> ?_)
            ·exact k9
            clear hK K
            try simp only[Act.put,qsA,qsZ,qsS]
            refine wpAnyH_take (i:=20) (v:= ?_) (by simp only[qA,qZ,qS];rfl) (by kernel_rfl) (by kernel_rfl) (by kernel_rfl) (fun _ _ _ h=>h) (Or.inl ⟨by rfl,?_⟩) (by assumption) ?_
            rotate_left 1
            ·intro w hSw
             try dsimp only at hSw
             go_simp
             all_goals with_reducible rfl
            try simp only[Act.put,qsA,qsZ,qsS]
            refine wpAnyH_take (i:=21) (v:= ?_) (by simp only[qA,qZ,qS];rfl) (by kernel_rfl) (by kernel_rfl) (by kernel_rfl) (fun _ _ _ h=>h) (Or.inl ⟨by rfl,?_⟩) (by assumption) ?_
            rotate_left 1
            ·intro w hSw
             try dsimp only at hSw
             go_simp
             all_goals with_reducible rfl
            try simp only[Act.put,qsA,qsZ,qsS]
            refine wpAnyH_ready (rs:=[22]) (by kernel_rfl) (by simp) ?_
            refine AllReadyH.cons (i:=22) (by simp only[qA,qZ,qS];rfl) (fun K hK=> ?_) ?_
            ·go_simp
             refine hK.out _ _ ?_ (fun hHeld=> ?_)
             ·exact kz
             clear hK K
             try simp only[Act.put,qsA,qsZ,qsS]
             refine wpAnyH_done (by kernel_rfl) ?_ _
             refine NoPanic.normal ?_;go_wp2_with fail
             go_roundw
             case rel=>exact⟨k+1,by go_num,HKM.out,HI9.out,HE9.out⟩
             case measure=>
              have:=HKM.out;simp only[intOf];omega
            exact AllReadyH.nil
           exact AllReadyH.nil
          exact AllReadyH.nil
         exact AllReadyH.nil
        refine AllReadyH.cons (i:=8) (by simp only[qA,qZ,qS];rfl) (fun K hK=> ?_) ?_
        ·go_simp
         refine hK.out _ _ ?_ (fun hHeld=> ?_)
         ·exact k8
         clear hK K
         try simp only[Act.put,qsA,qsZ,qsS]
         refine wpAnyH_take (i:=17) (v:= ?_) (by simp only[qA,qZ,qS];rfl) (by kernel_rfl) (by kernel_rfl) (by kernel_rfl) (fun _ _ _ h=>h) (Or.inl ⟨by rfl,?_⟩) (by assumption) ?_
         rotate_left 1
         ·intro w hSw
          try dsimp only at hSw
          go_simp
          all_goals with_reducible rfl
         try simp only[Act.put,qsA,qsZ,qsS]
         refine wpAnyH_ready (rs:=[4,18]) (by kernel_rfl) (by simp) ?_
         refine AllReadyH.cons (i:=4) (by simp only[qA,qZ,qS];rfl) (fun K hK=> ?_) ?_
         ·go_simp
          refine hK.out _ _ ?_ (fun hHeld=> ?_)
          ·exact k8
          clear hK K
          try simp only[Act.put,qsA,qsZ,qsS]
          refine wpAnyH_ready (rs:=[18]) (by kernel_rfl) (by simp) ?_
          refine AllReadyH.cons (i:=18) (by simp only[qA,qZ,qS];rfl) (fun K hK=> ?_) ?_
          ·go_simp
           refine hK.out _ _ ?_ (fun hHeld=> ?_)
           ·exact ka
           clear hK K
           try simp only[Act.put,qsA,qsZ,qsS]
           refine wpAnyH_ready (rs:=[19]) (by kernel_rfl) (by simp) ?_
           refine AllReadyH.cons (i:=19) (by simp only[qA,qZ,qS];rfl) (fun K hK=> ?_) ?_
           ·refine step_append_run rfl _ _ _ rfl rfl rfl HR9.out ?_;refine hK.out _ _ ?_ (fun hHeld=> ?_)
            ·exact k9
            clear hK K
            try simp only[Act.put,qsA,qsZ,qsS]
            refine wpAnyH_take (i:=20) (v:= ?_) (by simp only[qA,qZ,qS];rfl) (by kernel_rfl) (by kernel_rfl) (by kernel_rfl) (fun _ _ _ h=>h) (Or.inl ⟨by rfl,?_⟩) (by assumption) ?_
            rotate_left 1
            ·intro w hSw
             try dsimp only at hSw
             go_simp
             all_goals with_reducible rfl
            try simp only[Act.put,qsA,qsZ,qsS]
            refine wpAnyH_take (i:=21) (v:= ?_) (by simp only[qA,qZ,qS];rfl) (by kernel_rfl) (by kernel_rfl) (by kernel_rfl) (fun _ _ _ h=>h) (Or.inl ⟨by rfl,?_⟩) (by assumption) ?_
            rotate_left 1
            ·intro w hSw
             try dsimp only at hSw
             go_simp
             all_goals with_reducible rfl
            try simp only[Act.put,qsA,qsZ,qsS]
            refine wpAnyH_ready (rs:=[22]) (by kernel_rfl) (by simp) ?_
            refine AllReadyH.cons (i:=22) (by simp only[qA,qZ,qS];rfl) (fun K hK=> ?_) ?_
            ·go_simp
             refine hK.out _ _ ?_ (fun hHeld=> ?_)
             ·exact kz
             clear hK K
             try simp only[Act.put,qsA,qsZ,qsS]
             refine wpAnyH_done (by kernel_rfl) ?_ _
             refine NoPanic.normal ?_;go_wp2_with fail
             go_roundw
             case rel=>exact⟨k+1,by go_num,HKM.out,HI9.out,HE9.out⟩
             case measure=>
              have:=HKM.out;simp only[intOf];omega
            exact AllReadyH.nil
           exact AllReadyH.nil
          exact AllReadyH.nil
         refine AllReadyH.cons (i:=18) (by simp only[qA,qZ,qS];rfl) (fun K hK=> ?_) ?_
         ·go_simp
          refine hK.out _ _ ?_ (fun hHeld=> ?_)
          ·exact ka
          clear hK K
          try simp only[Act.put,qsA,qsZ,qsS]
          refine wpAnyH_ready (rs:=[4]) (by kernel_rfl) (by simp) ?_
          refine AllReadyH.cons (i:=4) (by simp only[qA,qZ,qS];rfl) (fun K hK=> ?_) ?_
          ·go_simp
           refine hK.out _ _ ?_ (fun hHeld=> ?_)
           ·exact ka
           clear hK K
           try simp only[Act.put,qsA,qsZ,qsS]
           refine wpAnyH_ready (rs:=[19]) (by kernel_rfl) (by simp) ?_
           refine AllReadyH.cons (i:=19) (by simp only[qA,qZ,qS];rfl) (fun K hK=> ?_) ?_
           ·refine step_append_run rfl _ _ _ rfl rfl rfl HR9.out ?_;refine hK.out _ _ ?_ (fun hHeld=> ?_)
            ·exact k9
            clear hK K
            try simp only[Act.put,qsA,qsZ,qsS]
            refine wpAnyH_take (i:=20) (v:= ?_) (by simp only[qA,qZ,qS];rfl) (by kernel_rfl) (by kernel_rfl) (by kernel_rfl) (fun _ _ _ h=>h) (Or.inl ⟨by rfl,?_⟩) (by assumption) ?_
            rotate_left 1
            ·intro w hSw
             try dsimp only at hSw
             go_simp
             all_goals with_reducible rfl
            try simp only[Act.put,qsA,qsZ,qsS]
            refine wpAnyH_take (i:=21) (v:= ?_) (by simp only[qA,qZ,qS];rfl) (by kernel_rfl) (by kernel_rfl) (by kernel_rfl) (fun _ _ _ h=>h) (Or.inl ⟨by rfl,?_⟩) (by assumption) ?_
            rotate_left 1
            ·intro w hSw
             try dsimp only at hSw
             go_simp
             all_goals with_reducible rfl
            try simp only[Act.put,qsA,qsZ,qsS]
            refine wpAnyH_ready (rs:=[22]) (by kernel_rfl) (by simp) ?_
            refine AllReadyH.cons (i:=22) (by simp only[qA,qZ,qS];rfl) (fun K hK=> ?_) ?_
            ·go_simp
             refine hK.out _ _ ?_ (fun hHeld=> ?_)
             ·exact kz
             clear hK K
             try simp only[Act.put,qsA,qsZ,qsS]
             refine wpAnyH_done (by kernel_rfl) ?_ _
             refine NoPanic.normal ?_;go_wp2_with fail
             go_roundw
             case rel=>exact⟨k+1,by go_num,HKM.out,HI9.out,HE9.out⟩
             case measure=>
              have:=HKM.out;simp only[intOf];omega
            exact AllReadyH.nil
           exact AllReadyH.nil
          exact AllReadyH.nil
         exact AllReadyH.nil
        exact AllReadyH.nil
       ·have hkE:k=M:=by omega
        subst hkE;have hkI:¬(k:Int)<(k:Int):=by omega
        have hL:=hIk.at_;rw[List.take_of_length_le (by rw[HM.out];exact qlr _)]at hL
        obtain⟨A7,c7,its,hbx,_,hlen,_⟩:=hL.ex;have hlk:its.length=k:=by rw[hlen];simp only[placedAt,qlm];exact HM.out
        have d7:=hbx.cell 7;have d8:=hbx.cell 8;have f8:=hbx.frozen 8;have b1:=hIk.bl.cell 0;have hbl1:=hIk.bl.lt;have hlt1:=hbx.lt;simp only[qA,qZ,qS,hlk]at d7 d8 b1;have hset:=hL.setBox 8 (.int .i64 ((k:Nat):Int)) (S':={ S with next:=f+n,items:=placedAt f (findB L),forced:=k }) ⟨rfl,rfl⟩ (fun v=>rfl)
        have HSET:=qh hset;have HIK:=qh hIk;clear hL hbx hlen hlk hset hIk hEk hk HI4 HO4 HX;go_wp2_with fail
        go_region
        all_goals
         go_wp2_with fail
         go_ret;have e1:L.length=n:=HXL.out;refine⟨rfl,?_,HIK.out.upd.logs HSET.out.2.drew⟩;rw[e1,HM.out];exact HSET.out.1.up (Upd.refl _ _).drew
  ·have hnc:¬(n:Int)<(count:Int):=by omega
   have hKL:=HK.out.exit (by rw[HCN.out];exact hn)
   have hX:ReadX bz w l p S L A c n wr:=⟨hKL▸HK.out.own,by rw[←hKL];exact HK.out.len,HK.out.upd,HK.out.bl⟩
   have HX:=qh hX;clear hKL hX HRD;go_upto_region 11 with(fail)
   clear e1 e4 f9 b1;generalize hwA:wr=wA at*;clear hwA;have hLA:=HH.out.up HX.out.upd;have HXL:=qh HX.out.len;obtain⟨Ai,ci,its,hbx,hO,hlen,_⟩:=hLA.ex;have hlt:=hbx.lt;have e4:=hbx.cell 4;have c9:=hbx.cell 9;have f9:=hbx.frozen 9;have b1:=HX.out.bl.cell 0;have hblt:=HX.out.bl.lt;simp only[qA,qZ,qS,HF.out]at e4 b1 c9;clear hbx hO hlen hLA;go_region
   all_goals
    have hI:=HX.out.step9 HH.out (f:=f);rw[show((f+n:Nat):Int)=(f:Int)+(n:Int) by omega]at hI
    have hb2:=hI.bl;have hfi:=find_ok (w:=(wA.setCell ⟨l,9,none⟩ (.int .i64 ((f:Int)+(n:Int)))).drew) (v:= .slice A n c) (l:=L) hI.own.els (by rw[HX.out.len];omega) HDT.out (HW.out.logs HH.out.hz (hI.upd))
    obtain⟨M,hM⟩:∃M,(findB L).length=M:=⟨_,rfl⟩;rw[hM]at hfi;have hMI:(M:Int)≤20000:=by have:=HBN.out;omega
    have HFI:=qh hfi;have HM:=qh hM;have HI:=qh hI;clear hI hb2 hfi hM e4 c9 f9 b1;go_wp2_with fail
    generalize (wA.setCell ⟨l,9,none⟩ (.int .i64 ((f:Int)+(n:Int)))).drew=wB at*;refine HFI.out.mono ?_;rintro e w4 ⟨A4,c4,rfl,hO4,hU4⟩;have HO4:=qh hO4;have HI4:=qh (HI.out.start hU4 HIT.out (findB L));have hb4:=HI4.out.bl.cell 0;have hbl4:=HI4.out.bl.lt;simp only[qA,qZ]at hb4;have HO4:=qh hO4;clear hO4 hU4 HFI HI hb4;go_wp2_with fail
    go_loopw [60] (fun s60 wr=>∃k:Nat,s60= .int .i64 (k:Int)∧k≤M∧ReadI bz w l p S f (f+n) (findB L) k wr∧OwnR 101 foundC 2 wB.heap.size wr (.slice A4 M c4) (findB L)) (fun s60 _=>M - (intOf s60).toNat)
    case atStart=>exact⟨0,rfl,Nat.zero_le _,HI4.out,HO4.out⟩
    case round=>
     obtain⟨k,rfl,hk,hIk,hEk⟩:=hrel;by_cases hkM:k<M
     ·have hkI:(k:Int)<(M:Int):=by omega
      have hkI2:(k:Int)≤20000:=by omega
      have hx:(findB L)[k]? =some ((findB L)[k]'(by rw[HM.out];exact hkM)):=qeg _
      generalize (findB L)[k]'(by rw[HM.out];exact hkM)=x at hx
      obtain⟨b,q⟩:=x;obtain⟨hdz,hbl,hq3⟩:=HDZ.out _ (qmg hx);obtain⟨g,off,cc,hsl,hg,hgc⟩:=hEk.els.get (cells:=foundC) (fun _=>rfl) hx
      injection hsl with hsl1 hsl2 hsl3
      subst hsl1;have u0:=hgc 0 (by omega)
      have u1:=hgc 1 (by omega)
      simp only[foundC,Nat.add_zero,qZ,qS]at u0 u1;have b1:=hIk.bl.cell 0;have hbl1:=hIk.bl.lt;simp only[qA,qZ]at b1;have hz1:(wr.alloc (.cells #[strV b,.int .i64 (q:Int)] 101)).heap.size=wr.heap.size+1:=by simp
      have hI1:=hIk.up ((Upd.refl _ wr).alloc (.cells #[strV b,.int .i64 (q:Int)] 101));have hE1:=hEk.alloc (.cells #[strV b,.int .i64 (q:Int)] 101);have hF1:=Blk.new wr 101 #[strV b,.int .i64 (q:Int)];obtain⟨c5,w5,hrun5,hE5,hU5,hsz5,_⟩:=conv_bytes (wr.alloc (.cells #[strV b,.int .i64 (q:Int)] 101)) b;rw[hz1]at hrun5 hE5;have hdec:=hdz w5 _ hE5;have HRUN5:=qh hrun5;have HDEC:=qh hdec;have HI5:=qh (hI1.up hU5);have HE5:=qh (hE1.upd hU5 fun _ _=>id)
      have HF5:=qh (hF1.upd hU5 id);have HX:=qh hx;have HKM:=qh hkM;have HBL:=qh hbl;have hq3I:(q:Int)≤300:=by omega
      have hU5z:=hU5.size;clear hx hkM hbl hdz hgc hIk hEk hz1 hI1 hE1 hF1 hrun5 hE5 hU5 hsz5 hdec hsl2 hsl3 hk hq3;go_wp2_with (first | (refine wpList_conv_run rfl 9 77 _ rfl rfl HRUN5.out ?_))
      refine HDEC.out.mono ?_;rintro e w6 ⟨r,rfl,hU6⟩;have HI6:=qh (HI5.out.up hU6);have HE6:=qh (HE5.out.upd hU6 fun _ _=>id)
      have HF6:=qh (HF5.out.upd hU6 id);have hone:=r.cells_one;have hl16:r.cells.length=16:=r.cells_len;have HISR:Hid ((Tryz.prog.info? 38).map (·.size)=some r.cells.length):=qh (by rw[hl16];exact rec_size)
      have hz16:zeroA.size=r.cells.length:=by rw[hl16];rfl
      unfold zeroA at hz16;have HZS:=qh hz16;have HONE:=qh hone;clear hone hl16 hz16 hU6 HDEC HRUN5 HI5 HE5 HF5 u0 u1 b1 hbl1 hU5z;go_upto_region 17 with(first | (refine wpList_store_new rfl 38 _ _ rfl rfl rfl HISR.out HZS.out HONE.out ?_))
      generalize hw7:w6.alloc (.cells r.cells.toArray 38)=w7 at*;have hB7:Blk w7 w6.heap.size 38 r.cells.toArray:=hw7▸Blk.new w6 38 r.cells.toArray;have hU67:Upd Nowhere w6 w7:=hw7▸(Upd.refl Nowhere w6).alloc _;clear hw7;generalize w6.heap.size=g7 at*;have hI7:=HI6.out.up hU67;have hF7:=HF6.out.upd hU67 id;obtain⟨c8,w8,hrun8,hE8,hU8,hsz8,cs8,fz8,h88⟩:=conv_bytes w7.drew b;have hU78:Upd Nowhere w7 w8:=((Upd.refl Nowhere w7).drew).same hU8;have hI8:=hI7.up hU78;have hE8':BytesE w8 (.slice (some ⟨w7.heap.size,0,none⟩) b.length c8) b:=hE8;have hrun8':(convert 9 77 (strV b)).run Tryz.prog w7.drew= .ok (.slice (some ⟨w7.heap.size,0,none⟩) b.length c8) w8:=hrun8
      obtain⟨A0,c0,A9,c9',w9,q7,hr9,r7,g7f,hl9,hU9,hc9,hI9⟩:=hI8.push HX.out (by omega) r hE8' (fun k hk=>by
       have:w7.heap.size=k:=by simpa [Value.ownBlock] using hk
       subst this;exact⟨_,_,h88⟩)
      have hbi:=build_item3 r (some ⟨w7.heap.size,0,none⟩,b.length,c8) (f+q);have hbs:=build_row1 ⟨r,(some ⟨w7.heap.size,0,none⟩,b.length,c8),f+q⟩;have hF8:=hF7.upd hU78 id
      have HNF:Hid (wr.heap.size≠l):=qh (by
       obtain⟨_,_,_,hb,_⟩:=hI8.at_.ex;exact hF8.ne_ hb (by decide))
      have hB8:=hB7.upd hU78 id
      have HNB:Hid (g7≠l):=qh (by
       obtain⟨_,_,_,hb,_⟩:=hI8.at_.ex;exact hB8.ne_ hb (by decide))
      have hz8:w8.heap.size=w7.heap.size+1:=hsz8;obtain⟨_,_,_,hbx7,_⟩:=hI7.at_.ex;obtain⟨_,_,_,hbx8,_⟩:=hI8.at_.ex;have p4:=hbx7.cell 4;have s4:=hbx8.cell 4;have p7:=(hU78.cell (p:=⟨l,7,none⟩) hbx7.lt id).symm.trans q7;have pb:=hI7.bl.cell 0;have sb:=hI8.bl.cell 0;have pf0:=hF7.cell 0;have pf1:=hF7.cell 1;have sf0:=hF8.cell 0;have sf1:=hF8.cell 1;simp only[qA,qZ,qS,HF.out]at p4 s4 pb sb pf0 pf1 sf0 sf1;have hnum:((f+q:Nat):Int)=(f:Int)+(q:Int):=by omega
      have L1:=hI7.bl.lt;have L2:=hbx7.lt;have L3:=hF7.lt;have L4:=hbx8.lt;have L5:=hI8.bl.lt
      obtain⟨v0,v1,v2,v3,v4,v5,v6,v7,v8,v9,v10,v11,v12,v13,v14,v15,hvs⟩:∃v0 v1 v2 v3 v4 v5 v6 v7 v8 v9 v10 v11 v12 v13 v14 v15,r.cells=[v0,v1,v2,v3,v4,v5,v6,v7,v8,v9,v10,v11,v12,v13,v14,v15]:=by
       obtain⟨rk,rt,rp,rn,ry,roh,rod,rnh,rnd,rco,rme,rlo,rro,rdi,rde,rpa⟩:=r;exact⟨_,_,_,_,_,_,_,_,_,_,_,_,_,_,_,_,rfl⟩
      have hics:itemC ⟨r,(some ⟨w7.heap.size,0,none⟩,b.length,c8),f+q⟩=[v0,v1,v2,v3,v4,v5,v6,v7,v8,v9,v10,v11,v12,v13,v14,v15,.slice (some ⟨w7.heap.size,0,none⟩) b.length c8,.int .i64 ((f:Int)+(q:Int))]:=by
       unfold itemC;rw[hvs,←hnum];rfl
      rw[hics]at hr9 hbi hbs;rw[hvs,hnum]at hbi;rw[hvs]at hB7 hB8 ⊢;have hS:∀W,Blk W w.heap.size 24 #[.pointer (some ⟨l,0,none⟩)]→W.cell? ⟨l,4,none⟩=some (.int .i64 (f:Int))→Blk W wr.heap.size 101 #[strV b,.int .i64 (q:Int)]→Blk W g7 38 #[v0,v1,v2,v3,v4,v5,v6,v7,v8,v9,v10,v11,v12,v13,v14,v15]→W.cell? ⟨w.heap.size,0,none⟩=some (.pointer (some ⟨l,0,none⟩))∧W.cell? ⟨l,4,none⟩=some (.int .i64 (f:Int))∧W.cell? ⟨wr.heap.size,0,none⟩=some (strV b)∧W.cell? ⟨wr.heap.size,1,none⟩=some (.int .i64 (q:Int))∧W.cell? ⟨g7,0,none⟩=some v0∧W.cell? ⟨g7,1,none⟩=some v1∧W.cell? ⟨g7,2,none⟩=some v2∧W.cell? ⟨g7,3,none⟩=some v3∧W.cell? ⟨g7,4,none⟩=some v4∧W.cell? ⟨g7,5,none⟩=some v5∧W.cell? ⟨g7,6,none⟩=some v6∧W.cell? ⟨g7,7,none⟩=some v7∧W.cell? ⟨g7,8,none⟩=some v8∧W.cell? ⟨g7,9,none⟩=some v9∧W.cell? ⟨g7,10,none⟩=some v10∧W.cell? ⟨g7,11,none⟩=some v11∧W.cell? ⟨g7,12,none⟩=some v12∧W.cell? ⟨g7,13,none⟩=some v13∧W.cell? ⟨g7,14,none⟩=some v14∧W.cell? ⟨g7,15,none⟩=some v15:=fun W h1 h2 h3 h4=>⟨h1.cell 0,h2,h3.cell 0,h3.cell 1,h4.cell 0,h4.cell 1,h4.cell 2,h4.cell 3,h4.cell 4,h4.cell 5,h4.cell 6,h4.cell 7,h4.cell 8,h4.cell 9,h4.cell 10,h4.cell 11,h4.cell 12,h4.cell 13,h4.cell 14,h4.cell 15⟩
      have k7:=hS w7.drew hI7.bl.drew p4 hF7.drew hB7.drew;have k8:=hS w8 hI8.bl s4 hF8 hB8;have ka:=hS _ (hI8.bl.alloc (.cells #[v0,v1,v2,v3,v4,v5,v6,v7,v8,v9,v10,v11,v12,v13,v14,v15,.slice (some ⟨w7.heap.size,0,none⟩) b.length c8,.int .i64 ((f:Int)+(q:Int))] 91)) (((Upd.refl Nowhere w8).alloc (.cells #[v0,v1,v2,v3,v4,v5,v6,v7,v8,v9,v10,v11,v12,v13,v14,v15,.slice (some ⟨w7.heap.size,0,none⟩) b.length c8,.int .i64 ((f:Int)+(q:Int))] 91)).cell (p:=⟨l,4,none⟩) hbx8.lt id |>.trans s4) (hF8.alloc _) (hB8.alloc _);have k9:=hS w9 (hI8.bl.upd hU9 (hI8.bl.noLog rfl)) ((hc9 4).trans s4) (hF8.upd hU9 (hF8.noLog rfl)) (hB8.upd hU9 (hB8.noLog rfl));have hr9':(Builtin.append_ #[82,82] 82 #[.slice A0 k c0,.slice (some ⟨w7.heap.size+1,0,none⟩) 1 1]).run Tryz.prog (w8.alloc (.cells #[v0,v1,v2,v3,v4,v5,v6,v7,v8,v9,v10,v11,v12,v13,v14,v15,.slice (some ⟨w7.heap.size,0,none⟩) b.length c8,.int .i64 ((f:Int)+(q:Int))] 91))= .ok (.slice A9 (k+1) c9') w9:=by rw[hz8]at hr9;exact hr9
      have s7:=((Upd.refl Nowhere w8).alloc (.cells #[v0,v1,v2,v3,v4,v5,v6,v7,v8,v9,v10,v11,v12,v13,v14,v15,.slice (some ⟨w7.heap.size,0,none⟩) b.length c8,.int .i64 ((f:Int)+(q:Int))] 91)).cell (p:=⟨l,7,none⟩) hbx8.lt id;have HR9:=qh hr9';have HI9:=qh hI9;have HE9:=qh (((HE6.out.upd hU67 fun _ _=>id).upd hU78 fun _ _=>id).logs (fun _ _=>rfl) (hU9.setCell (p:=⟨l,7,none⟩) (fun _=>hI8.at_.box) (.slice A9 (k+1) c9')))
      have hwr:IntKind.i64.wrap ((f:Int)+(q:Int))=(f:Int)+(q:Int):=by rw[IntWalk.i64_in _ (by omega)]
      have kz:=hS _ ((hI8.bl.upd hU9 (hI8.bl.noLog rfl)).far (p:=⟨l,7,none⟩) (show w.heap.size≠l by omega) (.slice A9 (k+1) c9')) (by rw[World.cell?_setCell_other _ _ _ _ (by simp)];exact(hc9 4).trans s4) ((hF8.upd hU9 (hF8.noLog rfl)).far (p:=⟨l,7,none⟩) HNF.out (.slice A9 (k+1) c9')) ((hB8.upd hU9 (hB8.noLog rfl)).far (p:=⟨l,7,none⟩) HNB.out (.slice A9 (k+1) c9'))
      clear hS hU9 hc9 p4 s4 pb sb pf0 pf1 sf0 sf1 hics hr9 hr9' hrun8 hI9 hE8 hE8' hU8 hsz8 h88 hU78 hI7 hI8 hF7 hF8 hB7 hB8 hbx7 hbx8 hU67 HI6 HE6 HF6 hvs HZS HONE HISR;refine wp_region_noPanic ?_;refine wp_region_held_drew (S:=(fun W=>W.cell? ⟨w.heap.size,0,none⟩=some (.pointer (some ⟨l,0,none⟩))∧W.cell? ⟨l,4,none⟩=some (.int .i64 (f:Int))∧W.cell? ⟨wr.heap.size,0,none⟩=some (strV b)∧W.cell? ⟨wr.heap.size,1,none⟩=some (.int .i64 (q:Int))∧W.cell? ⟨g7,0,none⟩=some v0∧W.cell? ⟨g7,1,none⟩=some v1∧W.cell? ⟨g7,2,none⟩=some v2∧W.cell? ⟨g7,3,none⟩=some v3∧W.cell? ⟨g7,4,none⟩=some v4∧W.cell? ⟨g7,5,none⟩=some v5∧W.cell? ⟨g7,6,none⟩=some v6∧W.cell? ⟨g7,7,none⟩=some v7∧W.cell? ⟨g7,8,none⟩=some v8∧W.cell? ⟨g7,9,none⟩=some v9∧W.cell? ⟨g7,10,none⟩=some v10∧W.cell? ⟨g7,11,none⟩=some v11∧W.cell? ⟨g7,12,none⟩=some v12∧W.cell? ⟨g7,13,none⟩=some v13∧W.cell? ⟨g7,14,none⟩=some v14∧W.cell? ⟨g7,15,none⟩=some v15)) (by kernel_rfl) ?_ (fun hHeld=> ?_)
      ·exact k7
      refine wpAnyH_take (i:=0) (v:= ?_) (by simp only[qA,qZ];rfl) (by kernel_rfl) (by kernel_rfl) (by kernel_rfl) (fun _ _ _ h=>h) (Or.inl ⟨by rfl,?_⟩) (by assumption) ?_
      rotate_left 1
      ·intro w hSw
       try dsimp only at hSw
       go_simp
       all_goals with_reducible rfl
      try simp only[Act.put,qsA,qsZ,qsS]
      refine wpAnyH_take (i:=1) (v:= ?_) (by simp only[qA,qZ,qS];rfl) (by kernel_rfl) (by kernel_rfl) (by kernel_rfl) (fun _ _ _ h=>h) (Or.inl ⟨by rfl,?_⟩) (by assumption) ?_
      rotate_left 1
      ·intro w hSw
       try dsimp only at hSw
       go_simp
       all_goals with_reducible rfl
      try simp only[Act.put,qsA,qsZ,qsS]
      refine wpAnyH_take (i:=2) (v:= ?_) (by simp only[qA,qZ,qS];rfl) (by kernel_rfl) (by kernel_rfl) (by kernel_rfl) (fun _ _ _ h=>h) (Or.inl ⟨by rfl,?_⟩) (by assumption) ?_
      rotate_left 1
      ·intro w hSw
       try dsimp only at hSw
       go_simp
       all_goals with_reducible rfl
      try simp only[Act.put,qsA,qsZ,qsS]
      refine wpAnyH_take (i:=3) (v:= ?_) (by simp only[qA,qZ,qS];rfl) (by kernel_rfl) (by kernel_rfl) (by kernel_rfl) (fun _ _ _ h=>h) (Or.inl ⟨by rfl,?_⟩) (by assumption) ?_
      rotate_left 1
      ·intro w hSw
       try dsimp only at hSw
       go_simp
       all_goals with_reducible rfl
      try simp only[Act.put,qsA,qsZ,qsS]
      refine wpAnyH_take (i:=5) (v:= ?_) (by simp only[qA,qZ,qS];rfl) (by kernel_rfl) (by kernel_rfl) (by kernel_rfl) (fun _ _ _ h=>h) (Or.inl ⟨by rfl,?_⟩) (by assumption) ?_
      rotate_left 1
      ·intro w hSw
       try dsimp only at hSw
       go_simp
       all_goals with_reducible rfl
      try simp only[Act.put,qsA,qsZ,qsS]
      refine wpAnyH_take (i:=6) (v:= ?_) (by simp only[qA,qZ,qS];rfl) (by kernel_rfl) (by kernel_rfl) (by kernel_rfl) (fun _ _ _ h=>h) (Or.inl ⟨by rfl,?_⟩) (by assumption) ?_
      rotate_left 1
      ·intro w hSw
       try dsimp only at hSw
       go_simp
       all_goals with_reducible rfl
      try simp only[Act.put,qsA,qsZ,qsS]
      refine wpAnyH_take (i:=7) (v:= ?_) (by simp only[qA,qZ,qS];rfl) (by kernel_rfl) (by kernel_rfl) (by kernel_rfl) (fun _ _ _ h=>h) (Or.inl ⟨by rfl,?_⟩) (by assumption) ?_
      rotate_left 1
      ·intro w hSw
       try dsimp only at hSw
       go_simp
       all_goals with_reducible rfl
      try simp only[Act.put,qsA,qsZ,qsS]
      refine wpAnyH_take (i:=9) (v:= ?_) (by simp only[qA,qZ,qS];rfl) (by kernel_rfl) (by kernel_rfl) (by kernel_rfl) (fun _ _ _ h=>h) (Or.inl ⟨by rfl,?_⟩) (by assumption) ?_
      rotate_left 1
      ·intro w hSw
       try dsimp only at hSw
       go_simp
       all_goals with_reducible rfl
      try simp only[Act.put,qsA,qsZ,qsS]
      refine wpAnyH_take (i:=10) (v:= ?_) (by simp only[qA,qZ,qS];rfl) (by kernel_rfl) (by kernel_rfl) (by kernel_rfl) (fun _ _ _ h=>h) (Or.inl ⟨by rfl,?_⟩) (by assumption) ?_
      rotate_left 1
      ·intro w hSw
       try dsimp only at hSw
       go_simp
       all_goals with_reducible rfl
      try simp only[Act.put,qsA,qsZ,qsS]
      refine wpAnyH_take (i:=11) (v:= ?_) (by simp only[qA,qZ,qS];rfl) (by kernel_rfl) (by kernel_rfl) (by kernel_rfl) (fun _ _ _ h=>h) (Or.inl ⟨by rfl,?_⟩) (by assumption) ?_
      rotate_left 1
      ·intro w hSw
       try dsimp only at hSw
       go_simp
       all_goals with_reducible rfl
      try simp only[Act.put,qsA,qsZ,qsS]
      refine wpAnyH_take (i:=12) (v:= ?_) (by simp only[qA,qZ,qS];rfl) (by kernel_rfl) (by kernel_rfl) (by kernel_rfl) (fun _ _ _ h=>h) (Or.inl ⟨by rfl,?_⟩) (by assumption) ?_
      rotate_left 1
      ·intro w hSw
       try dsimp only at hSw
       go_simp
       all_goals with_reducible rfl
      try simp only[Act.put,qsA,qsZ,qsS]
      refine wpAnyH_take (i:=13) (v:= ?_) (by simp only[qA,qZ,qS];rfl) (by kernel_rfl) (by kernel_rfl) (by kernel_rfl) (fun _ _ _ h=>h) (Or.inl ⟨by rfl,?_⟩) (by assumption) ?_
      rotate_left 1
      ·intro w hSw
       try dsimp only at hSw
       go_simp
       all_goals with_reducible rfl
      try simp only[Act.put,qsA,qsZ,qsS]
      refine wpAnyH_take (i:=14) (v:= ?_) (by simp only[qA,qZ,qS];rfl) (by kernel_rfl) (by kernel_rfl) (by kernel_rfl) (fun _ _ _ h=>h) (Or.inl ⟨by rfl,?_⟩) (by assumption) ?_
      rotate_left 1
      ·intro w hSw
       try dsimp only at hSw
       go_simp
       all_goals with_reducible rfl
      try simp only[Act.put,qsA,qsZ,qsS]
      refine wpAnyH_take (i:=15) (v:= ?_) (by simp only[qA,qZ,qS];rfl) (by kernel_rfl) (by kernel_rfl) (by kernel_rfl) (fun _ _ _ h=>h) (Or.inl ⟨by rfl,?_⟩) (by assumption) ?_
      rotate_left 1
      ·intro w hSw
       try dsimp only at hSw
       go_simp
       all_goals with_reducible rfl
      try simp only[Act.put,qsA,qsZ,qsS]
      refine wpAnyH_take (i:=16) (v:= ?_) (by simp only[qA,qZ,qS];rfl) (by kernel_rfl) (by kernel_rfl) (by kernel_rfl) (fun _ _ _ h=>h) (Or.inl ⟨by rfl,?_⟩) (by assumption) ?_
      rotate_left 1
      ·intro w hSw
       try dsimp only at hSw
       go_simp
       all_goals with_reducible rfl
      try simp only[Act.put,qsA,qsZ,qsS]
      refine wpAnyH_ready (rs:=[4,8]) (by kernel_rfl) (by simp) ?_
      refine AllReadyH.cons (i:=4) (by simp only[qA,qZ,qS];rfl) (fun K hK=> ?_) ?_
      ·go_simp
       refine hK.out _ _ ?_ (fun hHeld=> ?_)
       ·exact k7
       clear hK K
       try simp only[Act.put,qsA,qsZ,qsS]
       refine wpAnyH_ready (rs:=[8]) (by kernel_rfl) (by simp) ?_
       refine AllReadyH.cons (i:=8) (by simp only[qA,qZ,qS];rfl) (fun K hK=> ?_) ?_
       ·go_simp
        refine hK.out _ _ ?_ (fun hHeld=> ?_)
        ·exact k8
        clear hK K
        try simp only[Act.put,qsA,qsZ,qsS]
        refine wpAnyH_take (i:=17) (v:= ?_) (by simp only[qA,qZ,qS];rfl) (by kernel_rfl) (by kernel_rfl) (by kernel_rfl) (fun _ _ _ h=>h) (Or.inl ⟨by rfl,?_⟩) (by assumption) ?_
        rotate_left 1
        ·intro w hSw
         try dsimp only at hSw
         go_simp
         all_goals with_reducible rfl
        try simp only[Act.put,qsA,qsZ,qsS]
        refine wpAnyH_ready (rs:=[18]) (by kernel_rfl) (by simp) ?_
        refine AllReadyH.cons (i:=18) (by simp only[qA,qZ,qS];rfl) (fun K hK=> ?_) ?_
        ·go_simp
         refine hK.out _ _ ?_ (fun hHeld=> ?_)
         ·exact ka
         clear hK K
         try simp only[Act.put,qsA,qsZ,qsS]
         refine wpAnyH_ready (rs:=[19]) (by kernel_rfl) (by simp) ?_
         refine AllReadyH.cons (i:=19) (by simp only[qA,qZ,qS];rfl) (fun K hK=> ?_) ?_
         ·refine step_append_run rfl _ _ _ rfl rfl rfl HR9.out ?_;refine hK.out _ _ ?_ (fun hHeld=> ?_)
          ·exact k9
          clear hK K
          try simp only[Act.put,qsA,qsZ,qsS]
          refine wpAnyH_take (i:=20) (v:= ?_) (by simp only[qA,qZ,qS];rfl) (by kernel_rfl) (by kernel_rfl) (by kernel_rfl) (fun _ _ _ h=>h) (Or.inl ⟨by rfl,?_⟩) (by assumption) ?_
          rotate_left 1
          ·intro w hSw
           try dsimp only at hSw
           go_simp
           all_goals with_reducible rfl
          try simp only[Act.put,qsA,qsZ,qsS]
          refine wpAnyH_take (i:=21) (v:= ?_) (by simp only[qA,qZ,qS];rfl) (by kernel_rfl) (by kernel_rfl) (by kernel_rfl) (fun _ _ _ h=>h) (Or.inl ⟨by rfl,?_⟩) (by assumption) ?_
          rotate_left 1
          ·intro w hSw
           try dsimp only at hSw
           go_simp
           all_goals with_reducible rfl
          try simp only[Act.put,qsA,qsZ,qsS]
          refine wpAnyH_ready (rs:=[22]) (by kernel_rfl) (by simp) ?_
          refine AllReadyH.cons (i:=22) (by simp only[qA,qZ,qS];rfl) (fun K hK=> ?_) ?_
          ·go_simp
           refine hK.out _ _ ?_ (fun hHeld=> ?_)
           ·exact kz
           clear hK K
           try simp only[Act.put,qsA,qsZ,qsS]
           refine wpAnyH_done (by kernel_rfl) ?_ _
           refine NoPanic.normal ?_;go_wp2_with fail
           go_roundw
           case rel=>exact⟨k+1,by go_num,HKM.out,HI9.out,HE9.out⟩
           case measure=>
            have:=HKM.out;simp only[intOf];omega
          exact AllReadyH.nil
         exact AllReadyH.nil
        exact AllReadyH.nil
       exact AllReadyH.nil
      refine AllReadyH.cons (i:=8) (by simp only[qA,qZ,qS];rfl) (fun K hK=> ?_) ?_
      ·go_simp
       refine hK.out _ _ ?_ (fun hHeld=> ?_)
       ·exact k8
       clear hK K
       try simp only[Act.put,qsA,qsZ,qsS]
       refine wpAnyH_take (i:=17) (v:= ?_) (by simp only[qA,qZ,qS];rfl) (by kernel_rfl) (by kernel_rfl) (by kernel_rfl) (fun _ _ _ h=>h) (Or.inl ⟨by rfl,?_⟩) (by assumption) ?_
       rotate_left 1
       ·intro w hSw
        try dsimp only at hSw
        go_simp
        all_goals with_reducible rfl
       try simp only[Act.put,qsA,qsZ,qsS]
       refine wpAnyH_ready (rs:=[4,18]) (by kernel_rfl) (by simp) ?_
       refine AllReadyH.cons (i:=4) (by simp only[qA,qZ,qS];rfl) (fun K hK=> ?_) ?_
       ·go_simp
        refine hK.out _ _ ?_ (fun hHeld=> ?_)
        ·exact k8
        clear hK K
        try simp only[Act.put,qsA,qsZ,qsS]
        refine wpAnyH_ready (rs:=[18]) (by kernel_rfl) (by simp) ?_
        refine AllReadyH.cons (i:=18) (by simp only[qA,qZ,qS];rfl) (fun K hK=> ?_) ?_
        ·go_simp
         refine hK.out _ _ ?_ (fun hHeld=> ?_)
         ·exact ka
         clear hK K
         try simp only[Act.put,qsA,qsZ,qsS]
         refine wpAnyH_ready (rs:=[19]) (by kernel_rfl) (by simp) ?_
         refine AllReadyH.cons (i:=19) (by simp only[qA,qZ,qS];rfl) (fun K hK=> ?_) ?_
         ·refine step_append_run rfl _ _ _ rfl rfl rfl HR9.out ?_;refine hK.out _ _ ?_ (fun hHeld=> ?_)
          ·exact k9
          clear hK K
          try simp only[Act.put,qsA,qsZ,qsS]
          refine wpAnyH_take (i:=20) (v:= ?_) (by simp only[qA,qZ,qS];rfl) (by kernel_rfl) (by kernel_rfl) (by kernel_rfl) (fun _ _ _ h=>h) (Or.inl ⟨by rfl,?_⟩) (by assumption) ?_
          rotate_left 1
          ·intro w hSw
           try dsimp only at hSw
           go_simp
           all_goals with_reducible rfl
          try simp only[Act.put,qsA,qsZ,qsS]
          refine wpAnyH_take (i:=21) (v:= ?_) (by simp only[qA,qZ,qS];rfl) (by kernel_rfl) (by kernel_rfl) (by kernel_rfl) (fun _ _ _ h=>h) (Or.inl ⟨by rfl,?_⟩) (by assumption) ?_
          rotate_left 1
          ·intro w hSw
           try dsimp only at hSw
           go_simp
           all_goals with_reducible rfl
          try simp only[Act.put,qsA,qsZ,qsS]
          refine wpAnyH_ready (rs:=[22]) (by kernel_rfl) (by simp) ?_
          refine AllReadyH.cons (i:=22) (by simp only[qA,qZ,qS];rfl) (fun K hK=> ?_) ?_
          ·go_simp
           refine hK.out _ _ ?_ (fun hHeld=> ?_)
           ·exact kz
           clear hK K
           try simp only[Act.put,qsA,qsZ,qsS]
           refine wpAnyH_done (by kernel_rfl) ?_ _
           refine NoPanic.normal ?_;go_wp2_with fail
           go_roundw
           case rel=>exact⟨k+1,by go_num,HKM.out,HI9.out,HE9.out⟩
           case measure=>
            have:=HKM.out;simp only[intOf];omega
          exact AllReadyH.nil
         exact AllReadyH.nil
        exact AllReadyH.nil
       refine AllReadyH.cons (i:=18) (by simp only[qA,qZ,qS];rfl) (fun K hK=> ?_) ?_
       ·go_simp
        refine hK.out _ _ ?_ (fun hHeld=> ?_)
        ·exact ka
        clear hK K
        try simp only[Act.put,qsA,qsZ,qsS]
        refine wpAnyH_ready (rs:=[4]) (by kernel_rfl) (by simp) ?_
        refine AllReadyH.cons (i:=4) (by simp only[qA,qZ,qS];rfl) (fun K hK=> ?_) ?_
        ·go_simp
         refine hK.out _ _ ?_ (fun hHeld=> ?_)
         ·exact ka
         clear hK K
         try simp only[Act.put,qsA,qsZ,qsS]
         refine wpAnyH_ready (rs:=[19]) (by kernel_rfl) (by simp) ?_
         refine AllReadyH.cons (i:=19) (by simp only[qA,qZ,qS];rfl) (fun K hK=> ?_) ?_
         ·refine step_append_run rfl _ _ _ rfl rfl rfl HR9.out ?_;refine hK.out _ _ ?_ (fun hHeld=> ?_)
          ·exact k9
          clear hK K
          try simp only[Act.put,qsA,qsZ,qsS]
          refine wpAnyH_take (i:=20) (v:= ?_) (by simp only[qA,qZ,qS];rfl) (by kernel_rfl) (by kernel_rfl) (by kernel_rfl) (fun _ _ _ h=>h) (Or.inl ⟨by rfl,?_⟩) (by assumption) ?_
          rotate_left 1
          ·intro w hSw
           try dsimp only at hSw
           go_simp
           all_goals with_reducible rfl
          try simp only[Act.put,qsA,qsZ,qsS]
          refine wpAnyH_take (i:=21) (v:= ?_) (by simp only[qA,qZ,qS];rfl) (by kernel_rfl) (by kernel_rfl) (by kernel_rfl) (fun _ _ _ h=>h) (Or.inl ⟨by rfl,?_⟩) (by assumption) ?_
          rotate_left 1
          ·intro w hSw
           try dsimp only at hSw
           go_simp
           all_goals with_reducible rfl
          try simp only[Act.put,qsA,qsZ,qsS]
          refine wpAnyH_ready (rs:=[22]) (by kernel_rfl) (by simp) ?_
          refine AllReadyH.cons (i:=22) (by simp only[qA,qZ,qS];rfl) (fun K hK=> ?_) ?_
          ·go_simp
           refine hK.out _ _ ?_ (fun hHeld=> ?_)
           ·exact kz
           clear hK K
           try simp only[Act.put,qsA,qsZ,qsS]
           refine wpAnyH_done (by kernel_rfl) ?_ _
           refine NoPanic.normal ?_;go_wp2_with fail
           go_roundw
           case rel=>exact⟨k+1,by go_num,HKM.out,HI9.out,HE9.out⟩
           case measure=>
            have:=HKM.out;simp only[intOf];omega
          exact AllReadyH.nil
         exact AllReadyH.nil
        exact AllReadyH.nil
       exact AllReadyH.nil
      exact AllReadyH.nil
     ·have hkE:k=M:=by omega
      subst hkE;have hkI:¬(k:Int)<(k:Int):=by omega
      have hL:=hIk.at_;rw[List.take_of_length_le (by rw[HM.out];exact qlr _)]at hL
      obtain⟨A7,c7,its,hbx,_,hlen,_⟩:=hL.ex;have hlk:its.length=k:=by rw[hlen];simp only[placedAt,qlm];exact HM.out
      have d7:=hbx.cell 7;have d8:=hbx.cell 8;have f8:=hbx.frozen 8;have b1:=hIk.bl.cell 0;have hbl1:=hIk.bl.lt;have hlt1:=hbx.lt;simp only[qA,qZ,qS,hlk]at d7 d8 b1;have hset:=hL.setBox 8 (.int .i64 ((k:Nat):Int)) (S':={ S with next:=f+n,items:=placedAt f (findB L),forced:=k }) ⟨rfl,rfl⟩ (fun v=>rfl)
      have HSET:=qh hset;have HIK:=qh hIk;clear hL hbx hlen hlk hset hIk hEk hk HI4 HO4 HX;go_wp2_with fail
      go_region
      all_goals
       go_wp2_with fail
       go_ret;have e1:L.length=n:=HXL.out;refine⟨rfl,?_,HIK.out.upd.logs HSET.out.2.drew⟩;rw[e1,HM.out];exact HSET.out.1.up (Upd.refl _ _).drew
end Go.Proofs.YtljmmkjdlcfkpaaGreatDoor
