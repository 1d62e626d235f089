/-
  Plain law: a disk whose power may go while sectors are written, and what a crash leaves of it. Plain law: a log that stands on what a crash left, with sheets behind a gap that count no more; forced, marked, crashed wherever the power goes, opened. Plain law: the master record of a disk whose power may go; force and mark there. Plain law for WalCrashes: what is so of the log behind each call, and what is found behind a crash.
-/
import Derived.Test.YtljmmkjdlcfkpaaGreatDoorQWsF
namespace Go.Proofs.YtljmmkjdlcfkpaaGreatDoor
open Go
theorem crashGo_at(keep:List Int)(torn:Bool)(cut:Int)(n:Nat):∀(l:List (Int×Bs)) (i:Nat) (f:Int→Option Bs),(l.map (·.1)).Nodup→
 (∀k,k∉l.map (·.1)→crashGo keep torn cut n i l f k=f k)∧(∀x∈l,∃c,c≤256∧(crashGo keep torn cut n i l f x.1).getD noughtsB=cutOver x.2 ((f x.1).getD noughtsB) c):=by
 intro l
 induction l with
 | nil=>intro i f _;exact⟨fun k _=>rfl,fun x hx=>by cases hx⟩
 | cons y l ih=>
   intro i f hn;obtain⟨k,b⟩:=y;rw[List.map_cons,List.nodup_cons]at hn;obtain⟨hk,hl⟩:=hn;obtain⟨i1,i2⟩:=ih (i+1) (if cutOf keep torn cut n i=0 then f else putF f k (some (cutOver b ((f k).getD noughtsB) (cutOf keep torn cut n i)))) hl
   have hoth:∀m,m≠k→(if cutOf keep torn cut n i=0 then f else putF f k (some (cutOver b ((f k).getD noughtsB) (cutOf keep torn cut n i)))) m=f m:=fun m hm=>by
    split
    ·rfl
    ·unfold putF;rw[if_neg hm]
   refine⟨fun m hm=> ?_,fun x hx=> ?_⟩
   ·rw[List.map_cons,qmc,not_or]at hm;rw[crashGo,i1 m hm.2,hoth m hm.1]
   ·rw[crashGo]
    rcases qmc.1 hx with rfl | hx
    ·refine⟨cutOf keep torn cut n i,?_,?_⟩
     ·unfold cutOf;split
      ·omega
      ·split<;>omega
     ·simp only;rw[i1 k hk];by_cases h0:cutOf keep torn cut n i=0
      ·rw[if_pos h0,h0];rfl
      ·rw[if_neg h0];unfold putF;rw[if_pos rfl];rfl
    ·obtain⟨c,c1,c2⟩:=i2 x hx;refine⟨c,c1,?_⟩;rw[c2,hoth x.1 (fun e=>hk (by rw[←e];exact List.mem_map.2 ⟨x,hx,rfl⟩))]
theorem cutOver_ways{m:UInt8}{p old:Bs}(hm:m≠old.getD 255 0)(hl:old.length=256)(hp:p.length≤254){c:Nat}(hc:c≤256):cutOver (wrapB m p) old c=old∨openS (cutOver (wrapB m p) old c)=none∨cutOver (wrapB m p) old c=wrapB m p:=by
 have hw:=wrapB_len m hp;unfold cutOver;by_cases h0:c=0
 ·subst h0;exact .inl rfl
 by_cases h1:c=256
 ·subst h1
  right;right
  rw[List.take_of_length_le (by omega),List.drop_eq_nil_of_le (by omega),List.append_nil]
 ·right;left
  unfold openS;rw[if_neg];rintro⟨e,_⟩;obtain⟨c,rfl⟩:∃d,c=d+1:=⟨c - 1,by omega⟩
  have e0:((wrapB m p).take (c+1)++old.drop (c+1)).getD 0 0=m:=rfl
  have e1:((wrapB m p).take (c+1)++old.drop (c+1)).getD 255 0=old.getD 255 0:=by
   rw[List.getD_eq_getElem?_getD,List.getD_eq_getElem?_getD,qar (by rw[qlt];omega),qlt,List.getElem?_drop]
   congr 2
   omega
  rw[e0,e1]at e;exact hm e
theorem cutOver_len256{b old:Bs}(hb:b.length=256)(hl:old.length=256){c:Nat}(hc:c≤256):(cutOver b old c).length=256:=by
 unfold cutOver;rw[qla,qlt,qld];omega
structure Half(D0 D:DiskS)(W:List (Int×Bs)):Prop where
 syn:D.syn=D0.syn
 pend:D.pend=W
 size:D.size=D0.size
 syncs:D.syncs=D0.syncs
 fu:D.fuse≤D0.fuse
 ins:∀x∈W,D.read x.1=x.2
 out:∀k,k∉W.map (·.1)→D.read k=D0.read k
 nod:(W.map (·.1)).Nodup
 bys:∀x∈W,∃p:Bs,p.length≤254∧x.2=wrapB (nextMark (D0.read x.1)) p
theorem step_fuseLe(D:DiskS):D.step.fuse≤D.fuse:=by
 unfold DiskS.step;split
 ·exact Int.le_refl _
 ·show(if 0<D.fuse then D.fuse - 1 else D.fuse)≤D.fuse
  split<;>omega
theorem Half.nil{D0:DiskS}(h:D0.pend=[]):Half D0 D0 []:=⟨rfl,h,rfl,rfl,Int.le_refl _,(fun x hx=>by cases hx),(fun _ _=>rfl),List.nodup_nil,(fun x hx=>by cases hx)⟩
theorem Half.step{D0 D:DiskS}{W:List (Int×Bs)}(h:Half D0 D W):Half D0 D.step W:=by
 have e:D.step.syn=D.syn∧D.step.pend=D.pend∧D.step.size=D.size∧D.step.syncs=D.syncs:=by unfold DiskS.step;split<;>exact⟨rfl,rfl,rfl,rfl⟩
 exact⟨e.1.trans h.syn,e.2.1.trans h.pend,e.2.2.1.trans h.size,e.2.2.2.trans h.syncs,Int.le_trans (step_fuseLe D) h.fu,fun x hx=>(step_read D _).trans (h.ins x hx),fun k hk=>(step_read D _).trans (h.out k hk),h.nod,h.bys⟩
theorem step_down{D:DiskS}(h:D.gone=true):D.step.down=true:=by
 unfold DiskS.step;rw[if_pos h]
theorem step_up{D:DiskS}(hd:D.down=false)(h:D.gone=false):D.step.down=false:=by
 unfold DiskS.step;rw[h,if_neg (by simp)]
 exact hd
theorem Half.put{D0 D:DiskS}{W:List (Int×Bs)}(h:Half D0 D W)(hd:D.down=false){n:Int}(hn:n∉W.map (·.1)){b:Bs}(hb:b.length≤254):
 ((D.put n b).2=0∧(D.put n b).1.down=false∧Half D0 (D.put n b).1 (W++[(n,wrapB (nextMark (D0.read n)) b)]))∨((D.put n b).2=40∧(D.put n b).1.down=true∧Half D0 (D.put n b).1 W):=by
 unfold DiskS.put DiskS.write;rw[hd,if_neg (by simp),h.out n hn]
 cases hg:D.gone with
 | true=>
   rw[if_pos rfl];exact .inr ⟨rfl,step_down hg,h.step⟩
 | false=>
   rw[if_neg (by simp)]
   have hs:=h.step;refine .inl ⟨rfl,step_up hd hg,⟨hs.syn,?_,hs.size,hs.syncs,hs.fu,fun x hx=> ?_,fun k hk=> ?_,?_,fun x hx=> ?_⟩⟩
   ·show D.step.pend++_=_
    rw[hs.pend]
   ·simp only;rw[wrote_get]
    rcases qma.1 hx with hx | hx
    ·rw[if_neg (fun e=>hn (by rw[←e];exact List.mem_map.2 ⟨x,hx,rfl⟩))]
     exact hs.ins x hx
    ·rw[List.mem_singleton.1 hx,if_pos rfl]
   ·rw[List.map_append,qma,not_or]at hk;simp only[List.map_cons,List.map_nil,List.mem_singleton]at hk;simp only;rw[wrote_get,if_neg hk.2];exact hs.out k hk.1
   ·rw[List.map_append,List.nodup_append];refine⟨h.nod,by simp,fun a ha b hb=> ?_⟩
    simp only[List.map_cons,List.map_nil,List.mem_singleton]at hb;subst hb;rintro rfl;exact hn ha
   ·rcases qma.1 hx with hx | hx
    ·exact h.bys x hx
    ·rw[List.mem_singleton.1 hx];exact⟨b,hb,rfl⟩
theorem Half.sync{D0 D:DiskS}{W:List (Int×Bs)}(h:Half D0 D W)(hd:D.down=false):
 (D.sync.2=0∧D.sync.1.down=false∧D.sync.1.now=(fun _=>none)∧D.sync.1.pend=[]∧D.sync.1.size=D0.size∧D.sync.1.syncs=D0.syncs+1∧D.sync.1.fuse≤D0.fuse∧(∀x∈W,D.sync.1.read x.1=x.2)∧∀k,k∉W.map (·.1)→D.sync.1.read k=D0.read k)∨(D.sync.2=40∧D.sync.1.down=true∧Half D0 D.sync.1 W):=by
 unfold DiskS.sync
 cases hg:D.gone with
 | true=>
   rw[if_pos rfl];exact .inr ⟨rfl,step_down hg,h.step⟩
 | false=>
   rw[if_neg (by simp)]
   have hs:=h.step;exact .inl ⟨rfl,step_up hd hg,rfl,rfl,hs.size,by show D.step.syncs+1=_;rw[hs.syncs],hs.fu,fun x hx=>(flushed_get _ _).trans (hs.ins x hx),fun k hk=>(flushed_get _ _).trans (hs.out k hk)⟩
theorem Half.crash{D0 D:DiskS}{W:List (Int×Bs)}(h:Half D0 D W)(h0:D0.now=fun _=>none)(hl:∀n,(D0.read n).length=256)(keep:List Int)(torn:Bool)(cut:Int):
 (∀k,k∉W.map (·.1)→(D.crash keep torn cut).read k=D0.read k)∧(∀x∈W,(D.crash keep torn cut).read x.1=D0.read x.1∨openS ((D.crash keep torn cut).read x.1)=none∨(D.crash keep torn cut).read x.1=x.2)∧DkOK (D.crash keep torn cut) D0.size 0 0∧(D.crash keep torn cut).now=(fun _=>none)∧(D.crash keep torn cut).pend=[]:=by
 have hrd:∀k,D0.read k=(D0.syn k).getD noughtsB:=fun k=>by
  unfold DiskS.read;rw[h0]
  cases D0.syn k<;>rfl
 obtain⟨c1,c2⟩:=crashGo_at keep torn cut D.pend.length D.pend 0 D.syn (by rw[h.pend];exact h.nod)
 have hcr:∀k,(D.crash keep torn cut).read k=(crashGo keep torn cut D.pend.length 0 D.pend D.syn k).getD noughtsB:=fun k=>by
  unfold DiskS.crash DiskS.read;simp only
  cases crashGo keep torn cut D.pend.length 0 D.pend D.syn k<;>rfl
 rw[h.pend,h.syn]at c1 c2 hcr;have a1:∀k,k∉W.map (·.1)→(D.crash keep torn cut).read k=D0.read k:=fun k hk=>by rw[hcr,c1 k hk,hrd]
 have a2:∀x∈W,∃c,c≤256∧(D.crash keep torn cut).read x.1=cutOver x.2 (D0.read x.1) c:=fun x hx=>by
  obtain⟨c,e1,e2⟩:=c2 x hx;exact⟨c,e1,by rw[hcr,e2,hrd]⟩
 refine⟨a1,fun x hx=> ?_,⟨rfl,rfl,h.size,rfl,qlr _,fun n=> ?_⟩,rfl,rfl⟩
 ·obtain⟨c,e1,e2⟩:=a2 x hx;obtain⟨p,hp,ep⟩:=h.bys x hx;rw[e2,ep];exact cutOver_ways (nextMark_ok _).2.2.2 (hl _) hp e1
 ·by_cases hn:n∈W.map (·.1)
  ·obtain⟨x,hx,rfl⟩:=List.mem_map.1 hn;obtain⟨c,e1,e2⟩:=a2 x hx;obtain⟨p,hp,ep⟩:=h.bys x hx;rw[e2];exact cutOver_len256 (by rw[ep,wrapB_len _ hp]) (hl _) e1
  ·rw[a1 n hn,hl]
def wrGo(D0:DiskS)(count:Nat):Nat→List SheetS→List (Int×Bs)
 | _,[]=>[]
 | q,s::l=>(sectOf count q,wrapB (nextMark (D0.read (sectOf count q))) s.enc)::wrGo D0 count (q+1) l
theorem wrGo_get(D0:DiskS)(count:Nat):∀(Z:List SheetS) (q j:Nat),(wrGo D0 count q Z)[j]? =(Z[j]?).map fun s=>(sectOf count (q+j),wrapB (nextMark (D0.read (sectOf count (q+j)))) s.enc):=by
 intro Z
 induction Z with
 | nil=>intro q j;rfl
 | cons s l ih=>
   intro q j;rw[wrGo]
   cases j with
   | zero=>rfl
   | succ j=>
     rw[qS,qS,ih,show q+1+j=q+(j+1) by omega]
theorem wrGo_key{D0:DiskS}{count q:Nat}{Z:List SheetS}{x:Int×Bs}(h:x∈wrGo D0 count q Z):∃j s,Z[j]? =some s∧x=(sectOf count (q+j),wrapB (nextMark (D0.read (sectOf count (q+j)))) s.enc):=by
 obtain⟨j,hj⟩:=List.getElem?_of_mem h;rw[wrGo_get]at hj
 cases hs:Z[j]? with
 | none=>rw[hs]at hj;cases hj
 | some s=>
   rw[hs]at hj;exact⟨j,s,hs,(Option.some.inj hj).symm⟩
theorem puts_half(D0:DiskS)(count:Nat):∀(Z:List SheetS) (q:Nat) (D:DiskS) (W:List (Int×Bs)),Half D0 D W→D.down=false→(∀s∈Z,s.data.length≤242)→(∀j s,Z[j]? =some s→s.pos=((q+j:Nat):Int))→Z.length≤count→(∀j,j<Z.length→sectOf count (q+j)∉W.map (·.1))→
 ((putsGo count Z D).2=0∧(putsGo count Z D).1.down=false∧Half D0 (putsGo count Z D).1 (W++wrGo D0 count q Z))∨((putsGo count Z D).2=40∧(putsGo count Z D).1.down=true∧∃j,Half D0 (putsGo count Z D).1 (W++(wrGo D0 count q Z).take j)):=by
 intro Z
 induction Z with
 | nil=>intro q D W h hd _ _ _ _;exact .inl ⟨rfl,hd,by rw[wrGo,List.append_nil];exact h⟩
 | cons s l ih=>
   intro q D W h hd hg hp hc hn;have hs0:=hp 0 s rfl;have hsp:s.pos.toNat=q:=by rw[hs0];simp
   have hgs:=hg s (List.mem_cons_self ..);rw[List.length_cons]at hc hn;have h0:=hn 0 (by omega)
   rw[Nat.add_zero]at h0;rw[putsGo,hsp]
   show(((if (D.put (sectOf count q) s.enc).2≠0 then D.put (sectOf count q) s.enc else putsGo count l (D.put (sectOf count q) s.enc).1).2=0∧_)∨_)
   rcases h.put hd h0 (show s.enc.length≤254 by rw[enc_len];omega) with⟨e1,e2,e3⟩ | ⟨e1,e2,e3⟩
   ·have hput:sectOf count q=((2+q % count:Nat):Int):=rfl;rw[←hput,if_neg (by rw[e1];simp)]
    have:=ih (q+1) _ _ e3 e2 (fun t ht=>hg t (List.mem_cons_of_mem _ ht)) (fun j t ht=>by
     have:=hp (j+1) t (by rw[qS];exact ht)
     rw[this]
     congr 1
     omega) (by omega) (fun j hj e=>by
     rw[List.map_append,qma]at e
     rcases e with e | e
     ·exact hn (j+1) (by omega) (by rw[show q+(j+1)=q+1+j by omega];exact e)
     ·simp only[List.map_cons,List.map_nil,List.mem_singleton]at e;have hm:=mod_ne (a:=q) (b:=q+1+j) (c:=count) (by omega) (by omega)
      unfold sectOf at e;omega)
    rw[wrGo]
    rcases this with⟨r1,r2,r3⟩ | ⟨r1,r2,j,r3⟩
    ·refine .inl ⟨r1,r2,?_⟩;rw[qaa]at r3;exact r3
    ·refine .inr ⟨r1,r2,j+1,?_⟩;rw[qaa]at r3;exact r3
   ·have hput:sectOf count q=((2+q % count:Nat):Int):=rfl;rw[←hput,if_pos (by rw[e1];simp)]
    exact .inr ⟨e1,e2,0,by rw[List.take_zero,List.append_nil];exact e3⟩
theorem lastInc_append:∀(Z Z':List SheetS) (i:Int),lastInc i (Z++Z')=lastInc (lastInc i Z) Z':=by
 intro Z
 induction Z with
 | nil=>intro Z' i;rfl
 | cons s l ih=>intro Z' i;exact ih Z' s.inc
theorem lastInc_any{Z:List SheetS}(h:Z≠[])(i j:Int):lastInc i Z=lastInc j Z:=by
 cases Z with
 | nil=>exact absurd rfl h
 | cons s l=>rfl
theorem lastInc_all{m:Int}:∀(Z:List SheetS) (i:Int),Z≠[]→(∀s∈Z,s.inc=m)→lastInc i Z=m:=by
 intro Z
 induction Z with
 | nil=>intro i h _;exact absurd rfl h
 | cons s l ih=>
   intro i _ hs;have h1:=hs s (List.mem_cons_self ..)
   cases l with
   | nil=>exact h1
   | cons t r=>exact ih s.inc (by simp) fun u hu=>hs u (List.mem_cons_of_mem _ hu)
structure StC(S:LogS)(f:Nat)(Z:List SheetS)(F:List (Bs×Nat)):Prop where
 fst:S.m.first=(f:Int)
 nxt:S.next=f+Z.length
 room:S.next+pagesN (allB S.pendB).length≤f+S.count
 pg:∀j s,Z[j]? =some s→S.dk.page (sectOf S.count (f+j))=some s∧s.pos=((f+j:Nat):Int)
 inc:incGo S.m.inc 0 Z
 mi:0≤S.m.inc
 left:∀q s,S.dk.page (sectOf S.count q)=some s→s.pos<(S.next:Int)∨s.inc<S.m.inc
 stop:∀s,S.dk.page (sectOf S.count S.next)=some s→s.pos=(S.next:Int)→s.inc<lastInc 0 Z
 cut:CutOk Z F
 pl:∀x∈F,x.2<Z.length
 srt:F.Pairwise fun a b=>a.2≤b.2
 its:S.items.take S.forced=placedAt f F
 frc:S.forced≤S.items.length
 ld:S.dk.load=S.m
 now:S.dk.now=fun _=>none
 pend:S.dk.pend=[]
theorem Stand.toC{S:LogS}{f:Nat}{Z:List SheetS}{F:List (Bs×Nat)}(h:Stand S f Z F):StC S f Z F:=
 ⟨h.fst,h.nxt,h.room,h.pg,h.inc,h.mi,fun q s e=> .inl (h.old q s e),fun s e hp=>by have:=h.old _ s e;omega,h.cut,h.pl,h.srt,h.its,h.frc,h.ld,h.now,h.pend⟩
theorem StC.le{S:LogS}{f:Nat}{Z:List SheetS}{F:List (Bs×Nat)}(h:StC S f Z F):Z.length+pagesN (allB S.pendB).length≤S.count:=by
 have h1:=h.nxt;have h2:=h.room;omega
theorem StC.add{S:LogS}{f:Nat}{Z:List SheetS}{F:List (Bs×Nat)}(h:StC S f Z F){b:Bs}{spare:Int}(hr:S.roomy b spare=true):StC (S.add b) f Z F:=by
 have hp:=S.add_pend b h.frc;refine⟨h.fst,h.nxt,?_,h.pg,h.inc,h.mi,h.left,h.stop,h.cut,h.pl,h.srt,?_,?_,h.ld,h.now,h.pend⟩
 ·rw[hp];unfold LogS.roomy at hr;have hr:=of_decide_eq_true hr;rw[h.fst]at hr;have hn:S.need b=pagesN (allB (S.pendB++[b])).length:=by unfold LogS.need;rw[layAll_fst]
  rw[hn]at hr
  show S.next+_≤f+S.count
  omega
 ·show(S.items++[(b,0)]).take S.forced=_
  rw[List.take_append_of_le_length h.frc];exact h.its
 ·show S.forced≤(S.items++[(b,0)]).length
  have:=h.frc;rw[qla];omega
theorem StC.fused{S:LogS}{f:Nat}{Z:List SheetS}{F:List (Bs×Nat)}(h:StC S f Z F)(n:Int):StC { S with dk:={ S.dk with fuse:=n } } f Z F:=
 ⟨h.fst,h.nxt,h.room,h.pg,h.inc,h.mi,h.left,h.stop,h.cut,h.pl,h.srt,h.its,h.frc,h.ld,h.now,h.pend⟩
theorem LogS.sheet_pos{S:LogS}(hmi:0≤S.m.inc){j:Nat}{s:SheetS}(hs:(S.sheets S.pendB)[j]? =some s):s.pos=((S.next+j:Nat):Int)∧s.inc=S.m.inc:=by
 unfold LogS.sheets layB at hs;rw[qgm]at hs
 cases hr:(List.range (pagesN (layAll S.pendB).1.length))[j]? with
 | none=>rw[hr]at hs;cases hs
 | some i=>
   rw[hr]at hs
   have hi:i=j:=by
    have:=(qei.1 hr).2;rw[←this,List.getElem_range]
   subst hi;simp only[Option.map_some,Option.some.injEq]at hs;subst hs;refine⟨rfl,?_⟩
   show((S.m.inc.toNat:Nat):Int)=S.m.inc
   omega
theorem LogS.sheets_pages(S:LogS):(S.sheets S.pendB).length=pagesN (allB S.pendB).length:=by rw[LogS.sheets_len,layAll_fst]
theorem StC.force{S:LogS}{f:Nat}{Z:List SheetS}{F:List (Bs×Nat)}(h:StC S f Z F)(hb:∀b∈S.pendB,b.length≤4096)(hf:S.forced≠S.items.length){D:DiskS}(p1:∀j s,(S.sheets S.pendB)[j]? =some s→D.page (sectOf S.count (S.next+j))=some s)
 (p2:∀n:Int,(∀j,j<(S.sheets S.pendB).length→n≠sectOf S.count (S.next+j))→D.read n=S.dk.read n) (hn:D.now=fun _=>none) (hp:D.pend=[]):
 StC ⟨D,S.count,S.m,placed S.items S.forced S.next (placesB 0 0 S.pendB) (S.items.length - S.forced),S.items.length,S.next+pagesN (allB S.pendB).length,S.forces+1,S.down⟩ f (Z++S.sheets S.pendB) (F++placedAt Z.length (placesB 0 0 S.pendB)):=by
 obtain⟨hg,hc⟩:=lay_whole hb S.m.inc.toNat S.next;have hlen:=S.sheets_pages;have hle:=h.le;have hroom:=h.room;have hnxt:=h.nxt;have hfl:=h.frc;have hpos:=fun j s=>S.sheet_pos (j:=j) (s:=s) h.mi
 have hlow:∀n:Int,n<2→D.read n=S.dk.read n:=fun n hn=>p2 n fun j _ e=>by unfold sectOf at e;omega
 have hne:0<(S.sheets S.pendB).length:=by
  rw[hlen];have hpl:=S.pend_len
  cases hpb:S.pendB with
  | nil=>rw[hpb]at hpl;simp at hpl;omega
  | cons b l=>
    have:=sealO_pos b;rw[allB_cons,qla];unfold pagesN;omega
 have hinc:∀s∈S.sheets S.pendB,s.inc=S.m.inc:=fun s hs=>by
  obtain⟨j,hj⟩:=List.getElem?_of_mem hs;exact(hpos j s hj).2
 refine⟨h.fst,?_,?_,?_,?_,h.mi,?_,?_,?_,?_,?_,?_,?_,?_,hn,hp⟩
 ·show S.next+pagesN (allB S.pendB).length=f+(Z++S.sheets S.pendB).length
  rw[qla,hlen,hnxt];omega
 ·have e:(⟨D,S.count,S.m,placed S.items S.forced S.next (placesB 0 0 S.pendB) (S.items.length - S.forced),S.items.length,S.next+pagesN (allB S.pendB).length,S.forces+1,S.down⟩:LogS).pendB=[]:=by
   unfold LogS.pendB;simp only;rw[List.drop_eq_nil_of_le (by rw[placed_len];exact qlr _)]
   rfl
  show S.next+pagesN (allB S.pendB).length+pagesN (allB _).length≤f+S.count
  rw[e,allB_nil];unfold pagesN at hroom ⊢
  simpa using hroom
 ·intro j s hs
  show D.page _=_∧_
  by_cases hj:j<Z.length
  ·rw[qal hj]at hs;obtain⟨q1,q2⟩:=h.pg j s hs;refine⟨?_,q2⟩;rw[page_congr (p2 (sectOf S.count (f+j)) fun i hi e=> ?_)]
   ·exact q1
   ·have:=mod_ne (a:=f+j) (b:=S.next+i) (c:=S.count) (by omega) (by omega)
    unfold sectOf at e;omega
  ·rw[qar (by omega)]at hs
   have h1:=p1 _ s hs;rw[show S.next+(j - Z.length)=f+j by omega]at h1
   refine⟨h1,?_⟩;rw[(hpos _ s hs).1]
   congr 1
   omega
 ·exact incGo_append Z _ 0 h.inc h.mi hinc
 ·intro q s hs;have hs:D.page (sectOf S.count q)=some s:=hs
  show s.pos<((S.next+pagesN (allB S.pendB).length:Nat):Int)∨s.inc<S.m.inc
  by_cases hj:∃j,j<(S.sheets S.pendB).length∧sectOf S.count q=sectOf S.count (S.next+j)
  ·obtain⟨j,hj1,hj2⟩:=hj;rw[hj2,p1 j _ (qeg hj1)]at hs;have:=(hpos j s (by rw[←Option.some.inj hs];exact qeg hj1)).1
   left
   omega
  ·rw[page_congr (p2 (sectOf S.count q) fun j hj1 e=>hj ⟨j,hj1,e⟩)]at hs;have:=h.left q s hs;omega
 ·intro s hs hps;have hs:D.page (sectOf S.count (S.next+pagesN (allB S.pendB).length))=some s:=hs;have hps:s.pos=((S.next+pagesN (allB S.pendB).length:Nat):Int):=hps;rw[lastInc_append,lastInc_all _ _ (by intro e;rw[e]at hne;exact Nat.lt_irrefl _ hne) hinc]
  by_cases hj:∃j,j<(S.sheets S.pendB).length∧sectOf S.count (S.next+pagesN (allB S.pendB).length)=sectOf S.count (S.next+j)
  ·obtain⟨j,hj1,hj2⟩:=hj;rw[hj2,p1 j _ (qeg hj1)]at hs;have:=(hpos j s (by rw[←Option.some.inj hs];exact qeg hj1)).1
   omega
  ·rw[page_congr (p2 _ fun j hj1 e=>hj ⟨j,hj1,e⟩)]at hs;have:=h.left _ s hs;omega
 ·exact h.cut.append h.pl hg hc
 ·intro x hx;rw[qla,hlen]
  rcases qma.1 hx with hx | hx
  ·have:=h.pl x hx;omega
  ·unfold placedAt at hx;obtain⟨y,hy,rfl⟩:=List.mem_map.1 hx;have:=placesB_lt _ 0 y hy;rw[Nat.zero_add]at this;simp only;omega
 ·rw[List.pairwise_append];refine⟨h.srt,?_,fun x hx y hy=> ?_⟩
  ·unfold placedAt;rw[List.pairwise_map];exact(placesB_sorted _ 0).imp fun hab=>by simp only;omega
  ·have:=h.pl x hx;unfold placedAt at hy;obtain⟨z,_,rfl⟩:=List.mem_map.1 hy;simp only;omega
 ·show(placed S.items S.forced S.next (placesB 0 0 S.pendB) (S.items.length - S.forced)).take S.items.length=_
  rw[List.take_of_length_le (by rw[placed_len];exact qlr _),placedAt_append,placedAt_placedAt,←hnxt,←h.its]
  apply List.ext_getElem?;intro i;rw[placed_get];by_cases hi:i<S.forced
  ·rw[qal (by rw[qlt];omega),List.getElem?_take_of_lt hi]
   cases S.items[i]? with
   | none=>rfl
   | some x=>simp only[Option.map_some];rw[if_neg (by omega)]
  ·have hl:(S.items.take S.forced).length=S.forced:=by rw[qlt];omega
   rw[qar (by omega),hl,placedAt_get]
   cases hx:S.items[i]? with
   | none=>
     have:S.items.length≤i:=List.getElem?_eq_none_iff.1 hx;rw[List.getElem?_eq_none (by rw[placesB_len,LogS.pend_len];omega)]
     rfl
   | some x=>
     have hil:=(qei.1 hx).1
     have hpe:S.pendB[i - S.forced]? =some x.1:=by
      unfold LogS.pendB;rw[qgm,List.getElem?_drop,show S.forced+(i - S.forced)=i by omega,hx]
      rfl
     have hfs:=placesB_fst S.pendB 0 (i - S.forced);rw[hpe]at hfs
     cases hy:(placesB 0 0 S.pendB)[i - S.forced]? with
     | none=>rw[hy]at hfs;cases hfs
     | some y=>
       rw[hy]at hfs;simp only[Option.map_some,Option.some.injEq]at hfs ⊢;rw[if_pos (by omega),List.getD_eq_getElem?_getD,hy,←hfs]
       rfl
 ·show S.items.length≤(placed _ _ _ _ _).length
  rw[placed_len];exact qlr _
 ·show D.load=S.m
  rw[load_congr (hlow 0 (by omega)) (hlow 1 (by omega))]
  exact h.ld
theorem placed_fst(items:List (Bs×Nat))(forced next:Nat)(F:List (Bs×Nat))(j:Nat):(placed items forced next F j).map (·.1)=items.map (·.1):=by
 apply List.ext_getElem?;intro i;rw[qgm,qgm,placed_get]
 cases items[i]? with
 | none=>rfl
 | some x=>
   simp only[Option.map_some];split<;>rfl
theorem StC.mark{S:LogS}{f i:Nat}{Z:List SheetS}{F:List (Bs×Nat)}(h:StC S f Z F){check keep:Int}(hi:i<S.forced)(hkeep:keep=S.m.lsn+(i:Nat)){D:DiskS}(hl:D.load=S.markM check keep)(hpg:∀n:Int,2≤n→D.page n=S.dk.page n)(hn:D.now=fun _=>none)(hp:D.pend=[]):
 ∃n k,n≤i∧k<Z.length∧S.markM check keep=⟨S.m.gen+1,S.m.inc,((f+k:Nat):Int),S.m.lsn+(n:Nat),check⟩∧markN S.items (S.items.getD (keep - S.m.lsn).toNat ([],0)).2=n∧StC { S with dk:=D,m:=S.markM check keep,items:=S.items.drop n,forced:=S.forced - n } (f+k) (Z.drop k) (cutF k F):=by
 have hfl:=h.frc;have hit:(keep - S.m.lsn).toNat=i:=by omega
 obtain⟨x,hx⟩:∃x,F[i]? =some x:=by
  have hl:(S.items.take S.forced).length=F.length:=by rw[h.its,placedAt_len]
  rw[qlt]at hl;exact⟨_,qeg (by omega)⟩
 have hxi:S.items[i]? =some (x.1,f+x.2):=by
  have:(S.items.take S.forced)[i]? =(placedAt f F)[i]? :=by rw[h.its]
  rw[List.getElem?_take_of_lt hi,placedAt_get,hx]at this;exact this
 have hxm:x∈F:=qmg hx;have hxl:=h.pl x hxm;have hq:(S.items.getD (keep - S.m.lsn).toNat ([],0)).2=f+x.2:=by rw[hit,List.getD_eq_getElem?_getD,hxi];rfl
 obtain⟨n,hnn⟩:∃n,markN S.items (f+x.2)=n:=⟨_,rfl⟩
 have hnF:markN F x.2=n:=by
  rw[←markN_placed f x.2 F,←h.its,←markN_take hxi (by simp) hi]
  exact hnn
 have hni:n≤i:=by rw[←hnn];exact markN_lt hxi (by simp)
 obtain⟨m,hmm⟩:∃m,S.markM check keep=m:=⟨_,rfl⟩
 have hm':m=⟨S.m.gen+1,S.m.inc,((f+x.2:Nat):Int),S.m.lsn+(n:Nat),check⟩:=by
  rw[←hmm];unfold LogS.markM;rw[hq,hnn]
 rw[hmm]at hl ⊢;refine⟨n,x.2,hni,hxl,hm',by rw[hq];exact hnn,?_⟩
 have hpd:({ S with dk:=D,m:=m,items:=S.items.drop n,forced:=S.forced - n }:LogS).pendB=S.pendB:=by
  unfold LogS.pendB;simp only;rw[List.drop_drop,show n+(S.forced - n)=S.forced by omega]
 have hnx:=h.nxt;have hro:=h.room;have hpage:∀q,D.page (sectOf S.count q)=S.dk.page (sectOf S.count q):=fun q=>hpg _ (by unfold sectOf;omega)
 have hcut:cutF x.2 F=(F.drop n).map fun y=>(y.1,y.2 - x.2):=by
  unfold cutF;rw[sorted_cut x.2 F h.srt,hnF]
 have hlast:lastInc 0 (Z.drop x.2)=lastInc 0 Z:=by
  conv=>rhs;rw[←List.take_append_drop x.2 Z,lastInc_append]
  exact lastInc_any (fun e=>by
   have:=congrArg List.length e;rw[qld]at this;simp at this;omega) _ _
 refine⟨by rw[hm'],?_,?_,?_,?_,?_,?_,?_,h.cut.cut (.inr ⟨x,hxm,rfl⟩),?_,?_,?_,?_,hl,hn,hp⟩
 ·show S.next=_
  rw[qld];omega
 ·rw[hpd]
  show S.next+_≤f+x.2+S.count
  omega
 ·intro j s hs;rw[List.getElem?_drop]at hs;obtain⟨a1,a2⟩:=h.pg _ s hs;refine⟨?_,?_⟩
  ·show D.page (sectOf S.count (f+x.2+j))=some s
   rw[hpage,show f+x.2+j=f+(x.2+j) by omega]
   exact a1
  ·rw[a2]
   congr 1
   omega
 ·show incGo m.inc 0 _
  rw[hm'];exact incGo_drop _ Z 0 h.inc
 ·show 0≤m.inc
  rw[hm'];exact h.mi
 ·intro q s hs;have:=h.left q s (by rw[←hpage];exact hs)
  show _∨s.inc<m.inc
  rw[hm'];exact this
 ·intro s hs hps;rw[hlast];exact h.stop s (by rw[←hpage];exact hs) hps
 ·intro y hy;unfold cutF at hy;obtain⟨z,hz,rfl⟩:=List.mem_map.1 hy;have h1:=h.pl z (List.mem_filter.1 hz).1;have h2:=of_decide_eq_true (List.mem_filter.1 hz).2;rw[qld];simp only;omega
 ·rw[hcut,List.pairwise_map];exact(h.srt.sublist (List.drop_sublist _ _)).imp fun hab=>by simp only;omega
 ·show(S.items.drop n).take (S.forced - n)=_
  rw[←List.drop_take,h.its];have e:placedAt (f+x.2) (cutF x.2 F)=placedAt f (placedAt x.2 (cutF x.2 F)):=(placedAt_placedAt f x.2 _).symm;rw[e]
  have e2:placedAt x.2 (cutF x.2 F)=F.drop n:=by
   rw[hcut]
   have hge:∀y∈F.drop n,x.2≤y.2:=fun y hy=>by
    rw[←hnF,←sorted_cut x.2 F h.srt]at hy;exact of_decide_eq_true (List.mem_filter.1 hy).2
   unfold placedAt;rw[List.map_map]
   conv=>rhs;rw[←List.map_id (F.drop n)]
   apply List.map_congr_left;intro y hy;have:=hge y hy;simp only[Function.comp,id];rw[show x.2+(y.2 - x.2)=y.2 by omega]
  rw[e2];unfold placedAt;rw[List.map_drop]
 ·show S.forced - n≤(S.items.drop n).length
  rw[qld];omega
theorem first_not(P:Nat→Prop):∀n,∃k,k≤n∧(∀j,j<k→P j)∧(k<n→¬P k):=by
 intro n
 induction n with
 | zero=>exact⟨0,qlr _,fun j hj=>by omega,fun h=>by omega⟩
 | succ n ih=>
   obtain⟨k,h1,h2,h3⟩:=ih;by_cases hk:k=n
   ·subst hk;by_cases hp:P k
    ·exact⟨k+1,qlr _,fun j hj=>by
      rcases Nat.lt_or_eq_of_le (Nat.le_of_lt_succ hj) with h | rfl
      ·exact h2 j h
      ·exact hp,fun h=>by omega⟩
    ·exact⟨k,by omega,h2,fun _=>hp⟩
   ·exact⟨k,by omega,h2,fun _=>h3 (by omega)⟩
theorem StC.opened{S:LogS}{f:Nat}{Z:List SheetS}{F:List (Bs×Nat)}(h:StC S f Z F)(hb:∀b∈S.pendB,b.length≤4096)(hmay:S.openM.may=true){D:DiskS}{sz:Nat}(hD:DkOK D sz 0 0)(hld:D.load=S.m)
 (hpg:∀n:Int,2≤n→(∀j,j<(S.sheets S.pendB).length→n≠sectOf S.count (S.next+j))→D.page n=S.dk.page n)
 (hnw:∀j s,(S.sheets S.pendB)[j]? =some s→D.page (sectOf S.count (S.next+j))=S.dk.page (sectOf S.count (S.next+j))∨D.page (sectOf S.count (S.next+j))=none∨D.page (sectOf S.count (S.next+j))=some s):
 ∃u Z2 F2,u≤S.pendB.length∧F2=F++placedAt Z.length (placesB 0 0 (S.pendB.take u))∧sheetsGo D S.count S.m.inc S.count 0 f=Z2∧findB Z2=F2∧Z2.length≤S.count∧(∀s∈Z2,∃n,D.page n=some s)∧StC ⟨(D.save S.openM).1,S.count,S.openM,placedAt f F2,F2.length,f+Z2.length,0,false⟩ f Z2 F2:=by
 have hlen:=S.sheets_pages;have hle:=h.le;have hroom:=h.room;have hnxt:=h.nxt;have hmi:=h.mi;have hpos:=fun j s=>S.sheet_pos (j:=j) (s:=s) h.mi
 obtain⟨n,hn⟩:∃n,(S.sheets S.pendB).length=n:=⟨_,rfl⟩;obtain⟨k,hk,hall,hno⟩:=first_not (fun j=>∀s,(S.sheets S.pendB)[j]? =some s→D.page (sectOf S.count (S.next+j))=some s) n
 rw[hn]at hpg;have htk:((S.sheets S.pendB).take k).length=k:=by rw[qlt];omega
 have hincT:∀s∈(S.sheets S.pendB).take k,s.inc=S.m.inc:=fun s hs=>by
  obtain⟨j,hj⟩:=List.getElem?_of_mem (List.mem_of_mem_take hs);exact(hpos j s hj).2
 obtain⟨Z2,hZ2⟩:∃Z2,Z++(S.sheets S.pendB).take k=Z2:=⟨_,rfl⟩;have hZl:Z2.length=Z.length+k:=by rw[←hZ2,qla,htk]
 have hlast:0<k→lastInc 0 Z2=S.m.inc:=fun h0=>by
  rw[←hZ2,lastInc_append];exact lastInc_all _ _ (fun e=>by rw[e]at htk;simp at htk;omega) hincT
 have hold:∀q s,D.page (sectOf S.count q)=some s→S.dk.page (sectOf S.count q)=some s∨∃j,j<n∧(S.sheets S.pendB)[j]? =some s∧sectOf S.count q=sectOf S.count (S.next+j):=fun q s hs=>by
  by_cases hj:∃j,j<n∧sectOf S.count q=sectOf S.count (S.next+j)
  ·obtain⟨j,hj1,hj2⟩:=hj;obtain⟨t,ht⟩:∃t,(S.sheets S.pendB)[j]? =some t:=⟨_,qeg (by omega)⟩
   rcases hnw j t ht with e | e | e
   ·rw[hj2,e,←hj2]at hs;exact .inl hs
   ·rw[hj2,e]at hs
    cases hs
   ·rw[hj2,e]at hs;injection hs with hs
    exact .inr ⟨j,hj1,by rw[←hs];exact ht,hj2⟩
  ·rw[hpg _ (by unfold sectOf;omega) fun j hj1 e=>hj ⟨j,hj1,e⟩]at hs
   exact .inl hs
 have hstop:∀s,D.page (sectOf S.count (f+Z2.length))=some s→s.pos=((f+Z2.length:Nat):Int)→s.inc<lastInc 0 Z2:=fun s hs hps=>by
  have hq:f+Z2.length=S.next+k:=by omega
  rw[hq]at hs hps;have hs0:=hs
  rcases hold _ s hs with e | ⟨j,hj1,hj2,hj3⟩
  ·rcases Nat.eq_zero_or_pos k with h0 | h0
   ·subst h0;rw[←hZ2,List.take_zero,List.append_nil];exact h.stop s e (by rw[hps];rfl)
   ·rw[hlast h0];have:=h.left _ s e;omega
  ·have hp:=(hpos j s hj2).1;have hjk:j=k:=by omega
   subst hjk;exact absurd (fun t ht=>by rw[hj2]at ht;rw[←Option.some.inj ht];exact hs0) (hno (by omega))
 have hinc2:incGo S.m.inc 0 Z2:=by rw[←hZ2];exact incGo_append Z _ 0 h.inc h.mi hincT
 have hpg2:∀j s,Z2[j]? =some s→D.page (sectOf S.count (f+j))=some s∧s.pos=((f+j:Nat):Int):=fun j s hs=>by
  rw[←hZ2]at hs;by_cases hj:j<Z.length
  ·rw[qal hj]at hs;obtain⟨q1,q2⟩:=h.pg j s hs;refine⟨?_,q2⟩;rw[hpg _ (by unfold sectOf;omega) fun i hi e=> ?_]
   ·exact q1
   ·have:=mod_ne (a:=f+j) (b:=S.next+i) (c:=S.count) (by omega) (by omega)
    unfold sectOf at e;omega
  ·rw[qar (by omega)]at hs
   have hjl:=(qei.1 hs).1;rw[htk]at hjl;rw[List.getElem?_take_of_lt hjl]at hs;have h1:=hall _ hjl s hs;rw[show S.next+(j - Z.length)=f+j by omega]at h1
   refine⟨h1,?_⟩;rw[(hpos _ s hs).1]
   congr 1
   omega
 have hcnt2:Z2.length≤S.count:=by omega
 have hread:sheetsGo D S.count S.m.inc S.count 0 f=Z2:=by
  refine sheetsGo_eq Z2 S.count 0 f (okGo_of Z2 0 f hinc2 hpg2) hcnt2 fun hl=> ?_
  unfold pageOk
  cases hpp:D.page ((2+(f+Z2.length) % S.count:Nat):Int) with
  | none=>rfl
  | some s=>
    simp only;rw[if_neg];unfold okAt;simp only[Bool.and_eq_true,decide_eq_true_eq,not_and];intro e1 e2;have:=hstop s hpp e1;omega
 obtain⟨u,hu⟩:∃u,wholeN (242 * k) S.pendB=u:=⟨_,rfl⟩;have hg:=lay_good hb S.m.inc.toNat S.next k (by omega)
 have hc:=lay_cut hb S.m.inc.toNat S.next k (by omega)
 rw[hu]at hg hc;obtain⟨F2,hF2⟩:∃F2,F++placedAt Z.length (placesB 0 0 (S.pendB.take u))=F2:=⟨_,rfl⟩;have hcut2:CutOk Z2 F2:=by rw[←hZ2,←hF2];exact h.cut.append h.pl hg hc
 have hfit:(allB (S.pendB.take u)).length≤242 * k:=by rw[←hu];exact wholeN_fits _ _
 have hF2l:∀x∈F2,x.2<Z2.length:=fun x hx=>by
  rw[←hF2]at hx
  rcases qma.1 hx with hx | hx
  ·have:=h.pl x hx;omega
  ·unfold placedAt at hx;obtain⟨y,hy,rfl⟩:=List.mem_map.1 hx;have:=placesB_lt _ 0 y hy;rw[Nat.zero_add]at this;unfold pagesN at this;simp only;omega
 have hsrt2:F2.Pairwise fun a b=>a.2≤b.2:=by
  rw[←hF2,List.pairwise_append];refine⟨h.srt,?_,fun x hx y hy=> ?_⟩
  ·unfold placedAt;rw[List.pairwise_map];exact(placesB_sorted _ 0).imp fun hab=>by simp only;omega
  ·have:=h.pl x hx;unfold placedAt at hy;obtain⟨z,_,rfl⟩:=List.mem_map.1 hy;simp only;omega
 obtain⟨s3,s4⟩:=hD.save_dk hmay;have s5:=hD.save_load hmay (by rw[hld];show S.m.gen<S.m.gen+1;omega)
 have hpage:∀q,((D.save S.openM).1).page (sectOf S.count q)=D.page (sectOf S.count q):=fun q=>hD.save_page hmay (by unfold sectOf;omega)
 have hpd:(⟨(D.save S.openM).1,S.count,S.openM,placedAt f F2,F2.length,f+Z2.length,0,false⟩:LogS).pendB=[]:=by
  unfold LogS.pendB;simp only;rw[List.drop_eq_nil_of_le (by rw[placedAt_len];exact qlr _)]
  rfl
 refine⟨u,Z2,F2,by rw[←hu];exact wholeN_le _ _,hF2.symm,hread,hcut2.found,hcnt2,fun s hs=> ?_,?_⟩
 ·obtain⟨j,hj⟩:=List.getElem?_of_mem hs;exact⟨_,(hpg2 j s hj).1⟩
 refine⟨h.fst,rfl,?_,fun j s hs=>⟨?_,(hpg2 j s hs).2⟩,?_,?_,fun q s hs=> ?_,fun s hs hps=> ?_,hcut2,hF2l,hsrt2,?_,?_,s5,s3,s4⟩
 ·rw[hpd,allB_nil]
  show f+Z2.length+pagesN 0≤f+S.count
  unfold pagesN;omega
 ·show((D.save S.openM).1).page _=_
  rw[hpage];exact(hpg2 j s hs).1
 ·exact incGo_mono (by show S.m.inc≤S.m.inc+1;omega) Z2 0 hinc2
 ·show 0≤S.m.inc+1
  omega
 ·have hs:((D.save S.openM).1).page (sectOf S.count q)=some s:=hs;rw[hpage]at hs
  show s.pos<((f+Z2.length:Nat):Int)∨s.inc<S.m.inc+1
  rcases hold q s hs with e | ⟨j,hj1,hj2,hj3⟩
  ·have:=h.left q s e;omega
  ·have:=(hpos j s hj2).2;omega
 ·have hs:((D.save S.openM).1).page (sectOf S.count (f+Z2.length))=some s:=hs;rw[hpage]at hs;exact hstop s hs hps
 ·show(placedAt f F2).take F2.length=_
  rw[List.take_of_length_le (by rw[placedAt_len];exact qlr _)]
 ·show F2.length≤(placedAt f F2).length
  rw[placedAt_len];exact qlr _
theorem page_wrap{D:DiskS}{n:Int}{old:Bs}{s:SheetS}(hs:s.good)(h:D.read n=wrapB (nextMark old) s.enc):D.page n=some s:=by
 unfold DiskS.page DiskS.get;rw[h];obtain⟨h1,h2,_,_⟩:=nextMark_ok old;rw[openS_wrap h1 h2 (by rw[enc_len];have:=hs.2.2.1;omega)]
 exact sheetOf_enc hs
theorem page_torn{D:DiskS}{n:Int}(h:openS (D.read n)=none):D.page n=none:=by
 unfold DiskS.page DiskS.get;rw[h];rfl
theorem load_put{D D0:DiskS}{m:MastS}{old:Bs}(hm:m.may=true)(hg:D0.load.gen<m.gen)(h1:D.read (m.gen % 2)=wrapB (nextMark old) m.pay)(h2:∀n,n≠m.gen % 2→D.read n=D0.read n):D.load=m:=by
 obtain⟨hg0,_,_,_,_,hg1⟩:=MastS.may_nums hm
 have hget:D.get (m.gen % 2)=some (padB 254 m.pay):=by
  unfold DiskS.get;rw[h1];obtain⟨q1,q2,_,_⟩:=nextMark_ok old;exact openS_wrap q1 q2 (MastS.pay_small hm)
 have hoth:∀k:Int,k≠m.gen % 2→D.get k=D0.get k:=fun k hk=>by
  unfold DiskS.get;rw[h2 k hk]
 have hrp:=readM_pad hm
 rcases(by omega:m.gen % 2=0∨m.gen % 2=1) with hpar | hpar
 ·rw[hpar]at hget hoth;have h1:=hoth 1 (by omega)
  have e0:lookM D 0 ⟨0,0,0,0,0⟩=m:=by
   unfold lookM;rw[show((0:Nat):Int)=0 from rfl,hget];simp only[hrp];rw[if_pos ⟨trivial,by omega,by omega⟩]
  unfold DiskS.load;rw[e0];unfold lookM;rw[show((1:Nat):Int)=1 from rfl,h1]
  cases hs:D0.get 1 with
  | none=>rfl
  | some p=>
    simp only;rw[if_neg];rintro⟨q1,q2,q3⟩;have:=lookM_slot (n:=1) (show D0.get ((1:Nat):Int)=some p from hs) q1 q3 (lookM D0 0 ⟨0,0,0,0,0⟩)
    unfold DiskS.load at hg;omega
 ·rw[hpar]at hget hoth;have h0:=hoth 0 (by omega)
  have e0:lookM D 0 ⟨0,0,0,0,0⟩=lookM D0 0 ⟨0,0,0,0,0⟩:=lookM_congr h0 _
  have hle:(lookM D0 0 ⟨0,0,0,0,0⟩).gen<m.gen:=by
   have:=lookM_ge D0 1 (lookM D0 0 ⟨0,0,0,0,0⟩);unfold DiskS.load at hg;omega
  unfold DiskS.load;rw[e0];unfold lookM at hle ⊢;rw[show((1:Nat):Int)=1 from rfl,hget];simp only[hrp];rw[if_pos ⟨trivial,hle,by omega⟩]
theorem lookM_or(S:DiskS)(n:Nat)(b:MastS):lookM S n b=b∨∃p,S.get n=some p∧(readM p).2=true∧b.gen<(readM p).1.gen∧(readM p).1.gen % 2=n∧lookM S n b=(readM p).1:=by
 unfold lookM
 cases S.get n with
 | none=>exact .inl rfl
 | some p=>
   simp only;by_cases h:(readM p).2=true∧b.gen<(readM p).1.gen∧(readM p).1.gen % 2=n
   ·rw[if_pos h];exact .inr ⟨p,rfl,h.1,h.2.1,h.2.2,rfl⟩
   ·rw[if_neg h];exact .inl rfl
theorem lookM_none{S:DiskS}{n:Nat}(h:S.get n=none)(b:MastS):lookM S n b=b:=by
 unfold lookM;rw[h]
theorem load_torn{D D0:DiskS}{g:Int}(hg:D0.load.gen+1=g)(h0:0<D0.load.gen)(h1:openS (D.read (g % 2))=none)(h2:∀n,n≠g % 2→D.read n=D0.read n):D.load=D0.load:=by
 have hoth:∀k:Int,k≠g % 2→D.get k=D0.get k:=fun k hk=>by
  unfold DiskS.get;rw[h2 k hk]
 obtain⟨a,ha⟩:∃a,lookM D0 0 ⟨0,0,0,0,0⟩=a:=⟨_,rfl⟩;have hL:D0.load=lookM D0 1 a:=by unfold DiskS.load;rw[ha]
 rw[hL]at hg h0 ⊢;have hs0:=lookM_or D0 0 ⟨0,0,0,0,0⟩;have hs1:=lookM_or D0 1 a;rw[ha]at hs0
 rcases(by omega:g % 2=0∨g % 2=1) with hpar | hpar
 ·rw[hpar]at h1 hoth;have e0:lookM D 0 ⟨0,0,0,0,0⟩=⟨0,0,0,0,0⟩:=lookM_none (show openS (D.read ((0:Nat):Int))=none from h1) _
  unfold DiskS.load;rw[e0,lookM_congr (S':=D0) (hoth ((1:Nat):Int) (by decide))]
  rcases hs1 with e | ⟨p,p1,p2,p3,p4,p5⟩
  ·rw[e]at hg h0
   rcases hs0 with e2 | ⟨q,_,_,_,q4,q5⟩
   ·rw[e2]at h0;exact absurd h0 (by decide)
   ·rw[q5]at hg;omega
  ·rw[p5]at hg h0 ⊢;have hz:(⟨0,0,0,0,0⟩:MastS).gen<(readM p).1.gen:=h0;unfold lookM;rw[p1];simp only;rw[if_pos ⟨p2,hz,p4⟩]
 ·rw[hpar]at h1 hoth
  have e0:lookM D 0 ⟨0,0,0,0,0⟩=a:=by
   rw[lookM_congr (S':=D0) (hoth ((0:Nat):Int) (by decide))]
   exact ha
  unfold DiskS.load;rw[e0,lookM_none (show openS (D.read ((1:Nat):Int))=none from h1)]
  rcases hs1 with e | ⟨p,p1,p2,p3,p4,p5⟩
  ·exact e.symm
  ·rw[p5]at hg;omega
theorem save_half{D0:DiskS}(hd:D0.down=false)(hp:D0.pend=[]){m:MastS}(hm:m.may=true):
 ((D0.save m).2=0∧(D0.save m).1.down=false∧(D0.save m).1.now=(fun _=>none)∧(D0.save m).1.pend=[]∧(D0.save m).1.size=D0.size∧(D0.save m).1.syncs=D0.syncs+1∧(D0.save m).1.fuse≤D0.fuse∧(D0.save m).1.read (m.gen % 2)=wrapB (nextMark (D0.read (m.gen % 2))) m.pay∧∀k,k≠m.gen % 2→(D0.save m).1.read k=D0.read k)∨
 ((D0.save m).2=40∧(D0.save m).1.down=true∧∃W,(W=[]∨W=[(m.gen % 2,wrapB (nextMark (D0.read (m.gen % 2))) m.pay)])∧Half D0 (D0.save m).1 W):=by
 have h0:=Half.nil hp
 rcases h0.put hd (n:=m.gen % 2) (by simp) (MastS.pay_small hm) with⟨e1,e2,e3⟩ | ⟨e1,e2,e3⟩
 ·have hs:D0.save m=(D0.put (m.gen % 2) m.pay).1.sync:=by
   unfold DiskS.save
   cases hq:D0.put (m.gen % 2) m.pay with
   | mk S1 e=>
     rw[hq]at e1;simp only at e1 ⊢;rw[if_neg (by rw[e1];simp)]
  rw[hs]
  rcases e3.sync e2 with⟨f1,f2,f3,f4,f5,f6,f7,f8,f9⟩ | ⟨f1,f2,f3⟩
  ·refine .inl ⟨f1,f2,f3,f4,f5,f6,f7,?_,fun k hk=> ?_⟩
   ·exact f8 _ (List.mem_append_right _ (List.mem_singleton_self _))
   ·exact f9 k (by simpa using hk)
  ·exact .inr ⟨f1,f2,_,.inr rfl,f3⟩
 ·have hs:D0.save m=D0.put (m.gen % 2) m.pay:=by
   unfold DiskS.save
   cases hq:D0.put (m.gen % 2) m.pay with
   | mk S1 e=>
     rw[hq]at e1;simp only at e1 ⊢;rw[if_pos (by rw[e1];simp)]
  rw[hs];exact .inr ⟨e1,e2,[],.inl rfl,e3⟩
theorem forceS_half{S:LogS}(hne:S.forced≠S.items.length)(hd:S.dk.down=false)(hp:S.dk.pend=[])(hmi:0≤S.m.inc)(hg:∀s∈S.sheets S.pendB,s.data.length≤242)(hl:(S.sheets S.pendB).length≤S.count):
 (∃D,S.forceS=({ S with dk:=D,items:=placed S.items S.forced S.next (findB (S.sheets S.pendB)) (S.items.length - S.forced),forced:=S.items.length,next:=S.next+(S.sheets S.pendB).length,forces:=S.forces+1 },0)∧D.down=false∧D.now=(fun _=>none)∧D.pend=[]∧D.size=S.dk.size∧D.syncs=S.dk.syncs+1∧D.fuse≤S.dk.fuse∧
   (∀x∈wrGo S.dk S.count S.next (S.sheets S.pendB),D.read x.1=x.2)∧∀k,k∉(wrGo S.dk S.count S.next (S.sheets S.pendB)).map (·.1)→D.read k=S.dk.read k)∨
 (∃D j,S.forceS=({ S with dk:=D,down:=true },40)∧D.down=true∧Half S.dk D ((wrGo S.dk S.count S.next (S.sheets S.pendB)).take j)):=by
 have h0:=Half.nil hp
 rcases puts_half S.dk S.count (S.sheets S.pendB) S.next S.dk [] h0 hd hg (fun j s hs=>(S.sheet_pos hmi hs).1) hl (fun j _=>by simp) with⟨e1,e2,e3⟩ | ⟨e1,e2,j,e3⟩
 ·rw[List.nil_append]at e3
  rcases e3.sync e2 with⟨f1,f2,f3,f4,f5,f6,f7,f8,f9⟩ | ⟨f1,f2,f3⟩
  ·refine .inl ⟨_,?_,f2,f3,f4,f5,f6,f7,f8,f9⟩;unfold LogS.forceS;rw[if_neg hne];simp only;rw[e1,if_neg (by simp),f1,if_neg (by simp)]
  ·refine .inr ⟨(putsGo S.count (S.sheets S.pendB) S.dk).1.sync.1,(wrGo S.dk S.count S.next (S.sheets S.pendB)).length,?_,f2,by rw[List.take_length];exact f3⟩
   unfold LogS.forceS;rw[if_neg hne];simp only;rw[e1,if_neg (by simp),f1,if_pos (by simp)]
   rfl
 ·rw[List.nil_append]at e3;refine .inr ⟨_,j,?_,e2,e3⟩;unfold LogS.forceS;rw[if_neg hne];simp only;rw[e1,if_pos (by simp)]
  rfl
structure CrI(count k:Nat)(b:Bool)(S:LogS)(f:Nat)(Z:List SheetS)(F:List (Bs×Nat)):Prop where
 st:StC S f Z F
 cnt:S.count=count
 dwn:S.down=false
 ddn:S.dk.down=false
 dfu:S.dk.fuse≤9223372036854775807
 dfb:b=true→S.dk.fuse= -1
 dsz:S.dk.size=2+count
 dsy:0≤S.dk.syncs∧S.dk.syncs≤100+(k:Int)
 drd:∀n,(S.dk.read n).length=256
 gen:1≤S.m.gen∧S.m.gen≤2+(k:Int)
 inc:S.m.inc≤1+(k:Int)
 lsn:1≤S.m.lsn
 len:S.m.lsn+(S.items.length:Nat)≤1+(k:Int)
 chk:S.m.check=0
 fcs:S.forces≤k
 nxt:S.next≤40 * k
 pls:∀x∈S.items,x.2≤S.next
 bod:∀x∈S.items,x.1.length≤4096
theorem CrI.start(count:Nat):CrI count 0 true (log0 count) 0 [] []:=by
 have d:=(disk2_ok (2+count)).2;refine⟨(Stand.start count).toC,rfl,rfl,d.down,by show(disk2 (2+count)).fuse≤_;rw[d.fuse];decide,fun _=>d.fuse,d.size,⟨?_,?_⟩,d.read,(by show(1:Int)≤2∧(2:Int)≤2+((0:Nat):Int);decide),(by show(1:Int)≤1+((0:Nat):Int);decide),(by show(1:Int)≤1;decide),(by show(1:Int)+((0:Nat):Int)≤1+((0:Nat):Int);decide),rfl,qlr _,qlr _,(fun x hx=>by cases hx),(fun x hx=>by cases hx)⟩
 ·show 0≤(disk2 (2+count)).syncs
  rw[d.syncs]
  decide
 ·show(disk2 (2+count)).syncs≤_
  rw[d.syncs]
  decide
section
variable {count k:Nat} {b:Bool} {S:LogS} {f:Nat} {Z:List SheetS} {F:List (Bs×Nat)}
theorem CrI.logB(h:CrI count k b S f Z F)(h1:8≤count)(h2:count≤40)(hk:k≤130):LogB 6 S:=by
 have hr:=h.st.room;have hn:=h.st.nxt;have hc:=h.cnt;have hl:=h.len;have hf:=h.fcs;have hg:=h.gen;have hi:=h.inc;have hm:=h.st.mi;have hs:=h.lsn;have hx:=h.nxt;have hy:=h.dsy;have hz:=h.dsz;refine⟨by omega,by omega,by omega,?_,by omega,by omega,?_,h.st.frc,by omega,by omega,h.bod,?_,by omega,h.dfu,by omega,h.drd,?_⟩
 ·rw[h.st.fst];omega
 ·rw[h.chk];omega
 ·rw[layAll_fst];unfold pagesN at hr;omega
 ·rw[h.st.pend];simp
theorem CrI.more(h:CrI count k b S f Z F){j:Nat}(hj:k≤j):CrI count j b S f Z F:=by
 have hl:=h.len;have hf:=h.fcs;have hg:=h.gen;have hi:=h.inc;have hx:=h.nxt;have hy:=h.dsy;exact⟨h.st,h.cnt,h.dwn,h.ddn,h.dfu,h.dfb,h.dsz,by omega,h.drd,by omega,by omega,h.lsn,by omega,h.chk,by omega,by omega,h.pls,h.bod⟩
theorem CrI.fused(h:CrI count k b S f Z F)(n:Int)(hn:n≤9223372036854775807):CrI count k false { S with dk:={ S.dk with fuse:=n } } f Z F:=
 ⟨h.st.fused n,h.cnt,h.dwn,h.ddn,hn,(fun e=>by cases e),h.dsz,h.dsy,h.drd,h.gen,h.inc,h.lsn,h.len,h.chk,h.fcs,h.nxt,h.pls,h.bod⟩
theorem CrI.dkok(h:CrI count k true S f Z F):DkOK S.dk (2+count) S.dk.syncs 0:=
 ⟨h.ddn,h.dfb rfl,h.dsz,rfl,by rw[h.st.pend];exact qlr _,h.drd⟩
theorem CrI.add(h:CrI count k b S f Z F){y:Bs}{spare:Int}(hr:S.roomy y spare=true)(hb:y.length≤4096):CrI count (k+1) b (S.add y) f Z F:=by
 have hl:=h.len;have hf:=h.fcs;have hg:=h.gen;have hi:=h.inc;have hx:=h.nxt;have hy:=h.dsy;refine⟨h.st.add hr,h.cnt,h.dwn,h.ddn,h.dfu,h.dfb,h.dsz,⟨hy.1,by have:=hy.2;show S.dk.syncs≤_;omega⟩,h.drd,⟨hg.1,by have:=hg.2;show S.m.gen≤_;omega⟩,by show S.m.inc≤_;omega,h.lsn,?_,h.chk,by show S.forces≤_;omega,by show S.next≤_;omega,fun x hx=> ?_,fun x hx=> ?_⟩
 ·show S.m.lsn+(((S.items++[(y,0)]).length:Nat):Int)≤_
  rw[qla,qls];omega
 ·rcases qma.1 hx with hx | hx
  ·exact h.pls x hx
  ·rw[List.mem_singleton.1 hx];exact Nat.zero_le _
 ·rcases qma.1 hx with hx | hx
  ·exact h.bod x hx
  ·rw[List.mem_singleton.1 hx];exact hb
theorem StC.places{S:LogS}{f:Nat}{Z:List SheetS}{F:List (Bs×Nat)}(h:StC S f Z F)(hf:S.forced=S.items.length):∀x∈S.items,x.2≤S.next:=fun x hx=>by
 have e:=h.its;rw[hf,List.take_length]at e;rw[e]at hx;unfold placedAt at hx;obtain⟨y,hy,rfl⟩:=List.mem_map.1 hx;have:=h.pl y hy;have:=h.nxt;simp only;omega
theorem CrI.force(h:CrI count k b S f Z F)(h1:8≤count)(h2:count≤40)(hk:k≤130):
 (∃S' Z' F',S.forceS=(S',0)∧CrI count (k+1) b S' f Z' F'∧S'.items.map (·.1)=S.items.map (·.1)∧S'.forced=S'.items.length∧S'.m=S.m)∨
 (b=false∧∃D j,S.forceS=({ S with dk:=D,down:=true },40)∧D.down=true∧Half S.dk D ((wrGo S.dk S.count S.next (S.sheets S.pendB)).take j)):=by
 have hB:=h.logB h1 h2 hk;have hc:=h.cnt;have hlen:=S.sheets_pages;have hle:=h.st.le;have hgood:=hB.sheets_good (by omega)
 have hpos:=fun j s=>S.sheet_pos (j:=j) (s:=s) h.st.mi
 by_cases hf:S.forced=S.items.length
 ·exact .inl ⟨S,Z,F,by unfold LogS.forceS;rw[if_pos hf],h.more (by omega),rfl,hf,rfl⟩
 rcases forceS_half hf h.ddn h.st.pend h.st.mi (fun s hs=>(hgood s hs).2.2.1) (by omega) with⟨D,e0,e1,e2,e3,e4,e5,e6,e7,e8⟩ | ⟨D,j,e0,e1,e2⟩
 ·left
  rw[hB.find_len,hlen]at e0
  have hin:∀j s,(S.sheets S.pendB)[j]? =some s→D.read (sectOf S.count (S.next+j))=wrapB (nextMark (S.dk.read (sectOf S.count (S.next+j)))) s.enc:=fun j s hs=>by
   have:=e7 (sectOf S.count (S.next+j),wrapB (nextMark (S.dk.read (sectOf S.count (S.next+j)))) s.enc) (qmg (i:=j) (by rw[wrGo_get,hs];rfl))
   exact this
  have hkey:∀n:Int,(∀j,j<(S.sheets S.pendB).length→n≠sectOf S.count (S.next+j))→n∉(wrGo S.dk S.count S.next (S.sheets S.pendB)).map (·.1):=fun n hn hm=>by
   obtain⟨x,hx,rfl⟩:=List.mem_map.1 hm;obtain⟨j,s,q1,q2⟩:=wrGo_key hx;exact hn j (qei.1 q1).1 (by rw[q2])
  have st:=h.st.force hB.pend_body hf (D:=D) (fun j s hs=>page_wrap (hgood s (qmg hs)) (hin j s hs)) (fun n hn=>e8 n (hkey n hn)) e2 e3
  obtain⟨S',hS'⟩:∃S':LogS,(⟨D,S.count,S.m,placed S.items S.forced S.next (placesB 0 0 S.pendB) (S.items.length - S.forced),S.items.length,S.next+pagesN (allB S.pendB).length,S.forces+1,S.down⟩:LogS)=S':=⟨_,rfl⟩;have hit:S'.items.map (·.1)=S.items.map (·.1):=by rw[←hS'];exact placed_fst _ _ _ _ _
  have hil:S'.items.length=S.items.length:=by
   have:=congrArg List.length hit
   rwa [qlm,qlm]at this
  have hfo:S'.forced=S'.items.length:=by rw[hil,←hS']
  rw[hS']at st;have hl:=h.len;have hfc:=h.fcs;have hg:=h.gen;have hi:=h.inc;have hx:=h.nxt;have hy:=h.dsy;have hr:=h.st.room;have hnx:=h.st.nxt;have hm:S'.m=S.m:=by rw[←hS']
  refine⟨S',_,_,by rw[e0,←hS'],⟨st,by rw[←hS'];exact hc,by rw[←hS'];exact h.dwn,by rw[←hS'];exact e1,by rw[←hS'];exact Int.le_trans e6 h.dfu,fun hb=> ?_,by rw[←hS'];exact e4.trans h.dsz,?_,fun n=> ?_,by rw[hm];omega,by rw[hm];omega,by rw[hm];exact h.lsn,by rw[hm,hil];omega,by rw[hm];exact h.chk,by rw[←hS'];show S.forces+1≤_;omega,by rw[←hS'];show S.next+pagesN (allB S.pendB).length≤_;omega,st.places hfo,fun x hx=> ?_⟩,hit,hfo,hm⟩
  ·rw[←hS']
   show D.fuse= -1
   subst hb;obtain⟨D2,hD2,hok⟩:=hB.forced h.dkok hf;rw[e0]at hD2;have:=congrArg (fun t:LogS×Int=>t.1.dk) hD2
   have e:D=D2:=this;rw[e];exact hok.fuse
  ·rw[←hS']
   show 0≤D.syncs∧D.syncs≤_
   rw[e5];omega
  ·rw[←hS']
   show(D.read n).length=256
   by_cases hn:n∈(wrGo S.dk S.count S.next (S.sheets S.pendB)).map (·.1)
   ·obtain⟨x,hx,rfl⟩:=List.mem_map.1 hn;obtain⟨j,s,q1,q2⟩:=wrGo_key hx;rw[e7 x hx,q2];exact wrapB_len _ (by rw[enc_len];have:=(hgood s (qmg q1)).2.2.1;omega)
   ·rw[e8 n hn];exact h.drd n
  ·have hx1:x.1∈S'.items.map (·.1):=List.mem_map.2 ⟨x,hx,rfl⟩;rw[hit]at hx1;obtain⟨y,hy,e⟩:=List.mem_map.1 hx1;rw[←e];exact h.bod y hy
 ·refine .inr ⟨?_,D,j,e0,e1,e2⟩
  cases b with
  | false=>rfl
  | true=>
    obtain⟨D2,hD2,hok⟩:=hB.forced h.dkok hf;rw[e0]at hD2;have e40:(40:Int)=0:=congrArg (·.2) hD2;exact absurd e40 (by decide)
theorem CrI.mark(h:CrI count k b S f Z F)(h1:8≤count)(h2:count≤40)(hk:k≤130){i:Nat}{keep:Int}(hi:i<S.forced)(hkeep:keep=S.m.lsn+(i:Nat)):
 (S.markM 0 keep).may=true∧(S.markM 0 keep).gen=S.m.gen+1∧
 ((∃S' f' Z' F' n,S.markS 0 keep=(S',0)∧CrI count (k+1) b S' f' Z' F'∧n≤i∧S'.m.lsn=S.m.lsn+(n:Nat)∧S'.items=S.items.drop n∧S'.forced=S.forced - n)∨
 (b=false∧∃D W,S.markS 0 keep=({ S with dk:=D,down:=true },40)∧D.down=true∧(W=[]∨W=[((S.m.gen+1) % 2,wrapB (nextMark (S.dk.read ((S.m.gen+1) % 2))) (S.markM 0 keep).pay)])∧Half S.dk D W∧
   ∀D2:DiskS,D2.load=S.markM 0 keep→(∀n:Int,2≤n→D2.page n=S.dk.page n)→DkOK D2 (2+count) 0 0→D2.now=(fun _=>none)→D2.pend=[]→
    ∃S' f' Z' F' n,CrI count (k+1) true S' f' Z' F'∧S'.dk=D2∧n≤i∧S'.m.lsn=S.m.lsn+(n:Nat)∧S'.items=S.items.drop n∧S'.forced=S.forced - n)):=by
 have hB:=h.logB h1 h2 hk;have hl:=h.len;have hfc:=h.fcs;have hg:=h.gen;have hi2:=h.inc;have hm0:=h.st.mi;have hx:=h.nxt;have hy:=h.dsy;have hfl:=h.st.frc;have hlsn:=h.lsn;have hit:(keep - S.m.lsn).toNat=i:=by omega
 obtain⟨x,hxi⟩:∃x,S.items[i]? =some x:=⟨_,qeg (by omega)⟩
 have hxq:=h.pls x (qmg hxi);have hq:(S.items.getD (keep - S.m.lsn).toNat ([],0)).2=x.2:=by rw[hit,List.getD_eq_getElem?_getD,hxi];rfl
 have hmn:markN S.items x.2≤i:=markN_lt hxi (by omega)
 have hmM:S.markM 0 keep=⟨S.m.gen+1,S.m.inc,((x.2:Nat):Int),S.m.lsn+((markN S.items x.2:Nat):Int),0⟩:=by
  unfold LogS.markM;rw[hq]
 have hmay:(S.markM 0 keep).may=true:=by
  rw[hmM];unfold MastS.may MastS.list;simp only[List.all_cons,List.all_nil,Bool.and_eq_true,decide_eq_true_eq,and_true];omega
 have hgen:(S.markM 0 keep).gen=S.m.gen+1:=by rw[hmM]
 have hall:∀D:DiskS,D.load=S.markM 0 keep→(∀n:Int,2≤n→D.page n=S.dk.page n)→D.now=(fun _=>none)→D.pend=[]→D.down=false→D.fuse≤9223372036854775807→D.size=2+count→(0≤D.syncs∧D.syncs≤101+(k:Int))→(∀n,(D.read n).length=256)→∀b2:Bool,(b2=true→D.fuse= -1)→
  ∃S' f' Z' F' n,S'={ S with dk:=D,m:=S.markM 0 keep,items:=S.items.drop n,forced:=S.forced - n }∧markN S.items (S.items.getD (keep - S.m.lsn).toNat ([],0)).2=n∧CrI count (k+1) b2 S' f' Z' F'∧n≤i∧S'.m.lsn=S.m.lsn+(n:Nat):=fun D d1 d2 d3 d4 d5 d6 d7 d8 d9 b2 d10=>by
  obtain⟨n,q,hni,hql,e1,e2,st⟩:=h.st.mark (check:=0) hi hkeep d1 d2 d3 d4;refine⟨_,f+q,_,_,n,rfl,e2,⟨st,h.cnt,h.dwn,d5,d6,d10,d7,⟨d8.1,by have:=d8.2;show D.syncs≤_;omega⟩,d9,?_,?_,?_,?_,?_,?_,?_,fun y hy=> ?_,fun y hy=> ?_⟩,hni,by rw[e1]⟩
  ·show 1≤(S.markM 0 keep).gen∧(S.markM 0 keep).gen≤_
   rw[hgen];omega
  ·show(S.markM 0 keep).inc≤_
   rw[e1]
   show S.m.inc≤_
   omega
  ·show 1≤(S.markM 0 keep).lsn
   rw[e1]
   show 1≤S.m.lsn+(n:Int)
   omega
  ·show(S.markM 0 keep).lsn+(((S.items.drop n).length:Nat):Int)≤_
   rw[e1,qld]
   show S.m.lsn+(n:Int)+_≤_
   omega
  ·show(S.markM 0 keep).check=0
   rw[e1]
  ·show S.forces≤_
   omega
  ·show S.next≤_
   omega
  ·exact h.pls y (List.mem_of_mem_drop hy)
  ·exact h.bod y (List.mem_of_mem_drop hy)
 have hld0:S.dk.load.gen<(S.markM 0 keep).gen:=by rw[hgen,h.st.ld];omega
 refine⟨hmay,hgen,?_⟩
 rcases save_half h.ddn h.st.pend hmay with⟨e1,e2,e3,e4,e5,e6,e7,e8,e9⟩ | ⟨e1,e2,W,e3,e4⟩
 ·left
  have hld:=load_put hmay hld0 e8 e9;have hpar:(S.markM 0 keep).gen % 2<2:=by omega
  obtain⟨S',f',Z',F',n,rfl,q2,q3,q4,q5⟩:=hall (S.dk.save (S.markM 0 keep)).1 hld (fun n hn=>page_congr (e9 n (by omega))) e3 e4 e2 (Int.le_trans e7 h.dfu) (e5.trans h.dsz) (by rw[e6];omega) (fun n=>by
   by_cases hn:n=(S.markM 0 keep).gen % 2
   ·rw[hn,e8];exact wrapB_len _ (MastS.pay_small hmay)
   ·rw[e9 n hn];exact h.drd n) b (fun hb=>by subst hb;exact(h.dkok.save hmay).2.fuse)
  refine⟨_,f',Z',F',n,?_,q3,q4,q5,rfl,rfl⟩;unfold LogS.markS;simp only;rw[e1,if_neg (by simp),q2]
 ·right
  rw[hgen]at e3;refine⟨?_,(S.dk.save (S.markM 0 keep)).1,W,?_,e2,e3,e4,fun D2 d1 d2 d3 d4 d5=> ?_⟩
  ·cases b with
   | false=>rfl
   | true=>
     rw[(h.dkok.save hmay).1]at e1;exact absurd e1 (by decide)
  ·unfold LogS.markS;simp only;rw[e1,if_pos (by simp)]
   rfl
  ·obtain⟨S',f',Z',F',n,rfl,q2,q3,q4,q5⟩:=hall D2 d1 d2 d4 d5 d3.down (by rw[d3.fuse];decide) d3.size (by rw[d3.syncs];omega) d3.read true (fun _=>d3.fuse)
   exact⟨_,f',Z',F',n,q3,rfl,q4,q5,rfl,rfl⟩
structure Lands(count:Nat)(S:LogS)(D:DiskS):Prop where
 ok:DkOK D (2+count) 0 0
 ld:D.load=S.m
 pg:∀n:Int,2≤n→(∀j,j<(S.sheets S.pendB).length→n≠sectOf S.count (S.next+j))→D.page n=S.dk.page n
 nw:∀j s,(S.sheets S.pendB)[j]? =some s→D.page (sectOf S.count (S.next+j))=S.dk.page (sectOf S.count (S.next+j))∨D.page (sectOf S.count (S.next+j))=none∨D.page (sectOf S.count (S.next+j))=some s
theorem CrI.crash(h:CrI count k b S f Z F)(keep:List Int)(torn:Bool)(cut:Int):Lands count S (S.dk.crash keep torn cut):=by
 obtain⟨c1,c2,c3⟩:=crash_quiet h.st.now h.st.pend keep torn cut;exact⟨⟨rfl,rfl,h.dsz,rfl,qlr _,fun n=>by rw[c1];exact h.drd n⟩,(load_congr (c1 0) (c1 1)).trans h.st.ld,fun n _ _=>page_congr (c1 n),fun j s _=> .inl (page_congr (c1 _))⟩
theorem CrI.crash_force(h:CrI count k b S f Z F)(h1:8≤count)(h2:count≤40)(hk:k≤130){D:DiskS}{j:Nat}(hD:Half S.dk D ((wrGo S.dk S.count S.next (S.sheets S.pendB)).take j))(keep:List Int)(torn:Bool)(cut:Int):Lands count S (D.crash keep torn cut):=by
 obtain⟨c1,c2,c3,c4,c5⟩:=hD.crash h.st.now h.drd keep torn cut;have hgood:=(h.logB h1 h2 hk).sheets_good (by omega)
 have hkey:∀n:Int,(∀j,j<(S.sheets S.pendB).length→n≠sectOf S.count (S.next+j))→n∉((wrGo S.dk S.count S.next (S.sheets S.pendB)).take j).map (·.1):=fun n hn hm=>by
  obtain⟨x,hx,rfl⟩:=List.mem_map.1 hm;obtain⟨j,s,q1,q2⟩:=wrGo_key (List.mem_of_mem_take hx);exact hn j (qei.1 q1).1 (by rw[q2])
 have hlow:∀n:Int,n<2→(D.crash keep torn cut).read n=S.dk.read n:=fun n hn=>c1 n (hkey n fun i _ e=>by unfold sectOf at e;omega)
 rw[h.dsz]at c3;refine⟨c3,(load_congr (hlow 0 (by omega)) (hlow 1 (by omega))).trans h.st.ld,fun n _ hn=>page_congr (c1 n (hkey n hn)),fun i s hs=> ?_⟩
 by_cases hm:sectOf S.count (S.next+i)∈((wrGo S.dk S.count S.next (S.sheets S.pendB)).take j).map (·.1)
 ·obtain⟨x,hx,hxe⟩:=List.mem_map.1 hm;obtain⟨a,t,q1,q2⟩:=wrGo_key (List.mem_of_mem_take hx)
  have hai:a=i:=by
   have hle:=h.st.le;have hlen:=S.sheets_pages;have l1:=(qei.1 hs).1;have l2:=(qei.1 q1).1;rw[q2]at hxe;have hxe:sectOf S.count (S.next+a)=sectOf S.count (S.next+i):=hxe;unfold sectOf at hxe
   rcases Nat.lt_trichotomy a i with hh | hh | hh
   ·have:=mod_ne (a:=S.next+a) (b:=S.next+i) (c:=S.count) (by omega) (by omega)
    omega
   ·exact hh
   ·have:=mod_ne (a:=S.next+i) (b:=S.next+a) (c:=S.count) (by omega) (by omega)
    omega
  subst hai;rw[hs]at q1;obtain rfl:=Option.some.inj q1;rw[←hxe]
  rcases c2 x hx with e | e | e
  ·exact .inl (page_congr e)
  ·exact .inr (.inl (page_torn e))
  ·refine .inr (.inr ?_);rw[q2]at e ⊢;exact page_wrap (hgood s (qmg hs)) e
 ·exact .inl (page_congr (c1 _ hm))
theorem CrI.crash_mark(h:CrI count k b S f Z F)(h1:8≤count)(h2:count≤40)(hk:k≤130){i:Nat}{keep:Int}(hi:i<S.forced)(hkeep:keep=S.m.lsn+(i:Nat)){D:DiskS}{W:List (Int×Bs)}(hW:W=[]∨W=[((S.m.gen+1) % 2,wrapB (nextMark (S.dk.read ((S.m.gen+1) % 2))) (S.markM 0 keep).pay)])(hD:Half S.dk D W)
 (hnx:∀D2:DiskS,D2.load=S.markM 0 keep→(∀n:Int,2≤n→D2.page n=S.dk.page n)→DkOK D2 (2+count) 0 0→D2.now=(fun _=>none)→D2.pend=[]→
   ∃S' f' Z' F' n,CrI count (k+1) true S' f' Z' F'∧S'.dk=D2∧n≤i∧S'.m.lsn=S.m.lsn+(n:Nat)∧S'.items=S.items.drop n∧S'.forced=S.forced - n)
 (ks:List Int) (torn:Bool) (cut:Int):
 ∃S' b' f' Z' F' n,CrI count (k+1) b' S' f' Z' F'∧Lands count S' (D.crash ks torn cut)∧n≤i∧S'.m.lsn=S.m.lsn+(n:Nat)∧S'.items=S.items.drop n∧S'.forced=S.forced - n:=by
 obtain⟨c1,c2,c3,c4,c5⟩:=hD.crash h.st.now h.drd ks torn cut;rw[h.dsz]at c3;obtain⟨hmay,hgen,_⟩:=h.mark h1 h2 hk hi hkeep;have hg:=h.gen
 have hsame:(∀n,(D.crash ks torn cut).read n=S.dk.read n)→_:=fun hr=>(⟨S,b,f,Z,F,0,h.more (by omega),⟨c3,(load_congr (hr 0) (hr 1)).trans h.st.ld,fun n _ _=>page_congr (hr n),fun j s _=> .inl (page_congr (hr _))⟩,Nat.zero_le _,by simp,rfl,rfl⟩:
  ∃S' b' f' Z' F' n,CrI count (k+1) b' S' f' Z' F'∧Lands count S' (D.crash ks torn cut)∧n≤i∧S'.m.lsn=S.m.lsn+(n:Nat)∧S'.items=S.items.drop n∧S'.forced=S.forced - n)
 rcases hW with rfl | rfl
 ·exact hsame fun n=>c1 n (by simp)
 ·have hpar:0≤(S.m.gen+1) % 2∧(S.m.gen+1) % 2<2:=by omega
  have hoth:∀n,n≠(S.m.gen+1) % 2→(D.crash ks torn cut).read n=S.dk.read n:=fun n hn=>c1 n (by simpa using hn)
  rcases c2 _ (List.mem_singleton_self _) with e | e | e
  ·refine hsame fun n=> ?_
   by_cases hn:n=(S.m.gen+1) % 2
   ·rw[hn];exact e
   ·exact hoth n hn
  ·have hld:(D.crash ks torn cut).load=S.dk.load:=load_torn (g:=S.m.gen+1) (by rw[h.st.ld]) (by rw[h.st.ld];omega) e hoth
   exact⟨S,b,f,Z,F,0,h.more (by omega),⟨c3,hld.trans h.st.ld,fun n hn _=>page_congr (hoth n (by omega)),fun j s _=> .inl (page_congr (hoth _ (by unfold sectOf;omega)))⟩,Nat.zero_le _,by simp,rfl,rfl⟩
  ·have hld:(D.crash ks torn cut).load=S.markM 0 keep:=load_put (D0:=S.dk) hmay (by rw[hgen,h.st.ld];omega) (by rw[hgen];exact e) (by rw[hgen];exact hoth)
   obtain⟨S',f',Z',F',n,q1,q2,q3,q4,q5,q6⟩:=hnx _ hld (fun n hn=>page_congr (hoth n (by omega))) c3 c4 c5
   exact⟨S',true,f',Z',F',n,q1,⟨c3,by rw[←q2];exact q1.st.ld,fun n _ _=>by rw[q2],fun j s _=> .inl (by rw[q2])⟩,q3,q4,q5,q6⟩
structure Back(count k:Nat)(S:LogS)(f:Nat)(D:DiskS)(S2:LogS)(Z2:List SheetS)(F2:List (Bs×Nat))(u:Nat):Prop where
 dk:DkOK D (2+count) 0 0
 ld:D.load=S.m
 fst:S.m.first=(f:Int)
 sh:sheetsGo D count D.load.inc count 0 f=Z2
 dt:∀s∈Z2,s.data.length≤242
 fb:findB Z2=F2
 pl:∀x∈F2,x.2≤40
 may:S.openM.may=true
 sv:(D.save S.openM).2=0
 eq:S2=⟨(D.save S.openM).1,count,S.openM,placedAt f F2,F2.length,f+Z2.length,0,false⟩
 cr:CrI count (k+1) true S2 f Z2 F2
 le:u≤S.pendB.length
 its:S2.items.map (·.1)=(S.items.map (·.1)).take (S.forced+u)
 frc:S2.forced=S2.items.length
 lsn:S2.m.lsn=S.m.lsn
theorem CrI.opened(h:CrI count k b S f Z F)(h1:8≤count)(h2:count≤40)(hk:k≤130){D:DiskS}(hD:Lands count S D):∃S2 Z2 F2 u,Back count k S f D S2 Z2 F2 u:=by
 have hB:=h.logB h1 h2 hk;have hc:=h.cnt;have hl:=h.len;have hg:=h.gen;have hi:=h.inc;have hm0:=h.st.mi;have hx:=h.nxt;have hfl:=h.st.frc;have hlsn:=h.lsn;have hnx:=h.st.nxt;have hro:=h.st.room;have hck:=h.chk;have hfs:=h.st.fst
 have hmay:S.openM.may=true:=by
  unfold LogS.openM MastS.may MastS.list;simp only[List.all_cons,List.all_nil,Bool.and_eq_true,decide_eq_true_eq,and_true];omega
 obtain⟨u,Z2,F2,hu,hF2,hsh,hfb,hcnt,hpg,st⟩:=h.st.opened hB.pend_body hmay hD.ok hD.ld hD.pg hD.nw;obtain⟨s1,s2⟩:=hD.ok.save hmay
 have hF:F.map (·.1)=(S.items.map (·.1)).take S.forced:=by
  rw[←List.map_take,h.st.its];unfold placedAt;rw[List.map_map];rfl
 have hP:(placedAt Z.length (placesB 0 0 (S.pendB.take u))).map (·.1)=((S.items.map (·.1)).drop S.forced).take u:=by
  have e:(placedAt Z.length (placesB 0 0 (S.pendB.take u))).map (·.1)=S.pendB.take u:=by
   apply List.ext_getElem?;intro i;rw[qgm,placedAt_get,←placesB_fst (S.pendB.take u) 0 i]
   cases (placesB 0 0 (S.pendB.take u))[i]? <;>rfl
  rw[e];unfold LogS.pendB;rw[List.map_drop]
 have hit:(placedAt f F2).map (·.1)=(S.items.map (·.1)).take (S.forced+u):=by
  rw[List.take_add,←hF,←hP,←List.map_append,hF2];unfold placedAt;rw[List.map_map];rfl
 have hilen:(placedAt f F2).length≤S.items.length:=by
  have:=congrArg List.length hit;rw[qlm,qlt,qlm]at this;omega
 rw[hc]at hsh hcnt st;refine⟨_,Z2,F2,u,⟨hD.ok,hD.ld,hfs,by rw[hD.ld];exact hsh,fun s hs=> ?_,hfb,fun x hx=> ?_,hmay,s1,rfl,⟨st,rfl,rfl,s2.down,by show(D.save S.openM).1.fuse≤_;rw[s2.fuse];decide,fun _=>s2.fuse,s2.size,?_,s2.read,?_,?_,hlsn,?_,hck,Nat.zero_le _,?_,?_,fun x hx=> ?_⟩,hu,hit,?_,rfl⟩⟩
 ·obtain⟨n,hn⟩:=hpg s hs;exact page_data (hD.ok.read n) hn
 ·have:=st.pl x hx;omega
 ·show 0≤(D.save S.openM).1.syncs∧(D.save S.openM).1.syncs≤_
  rw[s2.syncs];omega
 ·show 1≤S.m.gen+1∧S.m.gen+1≤_
  omega
 ·show S.m.inc+1≤_
  omega
 ·show S.m.lsn+(((placedAt f F2).length:Nat):Int)≤_
  omega
 ·show f+Z2.length≤_
  omega
 ·exact st.places (by show F2.length=(placedAt f F2).length;rw[placedAt_len])
 ·have hx1:x.1∈(placedAt f F2).map (·.1):=List.mem_map.2 ⟨x,hx,rfl⟩;rw[hit]at hx1;obtain⟨y,hy,e⟩:=List.mem_map.1 (List.mem_of_mem_take hx1);rw[←e];exact h.bod y hy
 ·show F2.length=(placedAt f F2).length
  rw[placedAt_len]
end
end Go.Proofs.YtljmmkjdlcfkpaaGreatDoor
