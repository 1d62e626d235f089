/-
  Layer 7: a coder that reads: lists of numbers, of locks; rows, dirty pages, deeds. Layer 7: a coder that reads: lists of rows, dirty pages, deeds; a record that was read.
-/
import Derived.Test.YtljmmkjdlcfkpaaGreatDoorQWrB
set_option maxRecDepth 100000
set_option maxHeartbeats 2000000
namespace Go.Proofs.YtljmmkjdlcfkpaaGreatDoor
open Go Go.RowKit
def ListP(R g t TE sz off:Nat)(cs:Array Value){α:Type}(cells:α→List Value)(L:List α)(rest:Bs)(w:World)(e:Ending)(w':World):Prop:=
 e= .returned (.tuple #[])∧∃s:SlT,OwnR TE cells sz w.heap.size w' (slV s) L∧RdS R g t rest (cs.setIfInBounds off (slV s)) w w'
theorem EachP.list{R g t TE sz off:Nat}{cs:Array Value}{α:Type}{cells:α→List Value}{L:List α}{rest:Bs}{w w':World}{e:Ending}(h:EachP R g t TE sz off cs cells id (fun _ _=>True) L rest w e w'):ListP R g t TE sz off cs cells L rest w e w':=by
 obtain⟨h1,s,qs,h2,h3,_,h4⟩:=h;rw[List.map_id]at h2;rw[h2]at h3;exact⟨h1,s,h3,h4⟩
theorem OwnR.keepR{TE sz B R g t:Nat}{α:Type}{cells:α→List Value}{w w':World}{v:Value}{L:List α}{cs:Array Value}(h:OwnR TE cells sz B w v L)(hR:R<B)(hb:Blk w g t cs)(hne:TE≠t)(hu:Upd (RdF R g) w w'):OwnR TE cells sz B w' v L:=
 h.upd hu fun k hk e=>by
  rcases e with e | e
  ·have:=h.new _ hk;omega
  ·exact h.blk_ne hb hne (e▸hk)
theorem still_true{β:Type}(R TE:Nat):Still (β:=β) R TE (fun _ _=>True):=fun _ _ _ _ _ _ _ _=>trivial
theorem ints_r{R g t off:Nat}{rest:Bs}{w:World}{cs:Array Value}{L:List Int}(h:RAt w R (listB numZ L++rest,0))(hl:(listB numZ L++rest).length≤1000000)(hb:Blk w g t cs)(ht:t≠5)(hg:g≠R){A0:Option Addr}{n0 c0:Nat}(hc:cs[off]? =some (.slice A0 n0 c0))(hn:L.length≤256)(hnb:∀n∈L,0≤n∧n≤1099511627776):
 Calls Tryz.prog 117 #[cR R,.pointer (some ⟨g,off,none⟩)] w (ListP R g t 3 1 off cs intC L rest w):=by
 have hU0:=(Upd.refl Nowhere w).alloc (.cells #[.pointer none,.pointer (some ⟨R,0,none⟩)] 136);have hB:=Blk.new w 136 #[.pointer none,.pointer (some ⟨R,0,none⟩)];have hbR:w.heap.size≠R:=by have:=h.lt;omega
 have hbg:w.heap.size≠g:=by have:=hb.lt;omega
 have hR1:=h.upd hU0 id fun _ e=>absurd e id
 have hb1:=hb.upd hU0 id
 have hit:ItemR R g 3 1 zI (w.alloc (.cells #[.pointer none,.pointer (some ⟨R,0,none⟩)] 136)) L numZ intC id (fun _ _=>True) 125 (fun x=>#[cR R,x]):=by
  intro i x V w' cs' rest' hx hu hV hrd hl' hb' hz;have hVR:V≠R:=by have:=hR1.lt;omega
  refine(cnum_r (off:=i * 1) hrd (hnb x (qmg hx)) hl' hb' (by decide) hVR (n0:=0) (hz 0 (by omega))).mono ?_
  intro e w'' hP;exact⟨hP.1,x,rfl,trivial,RdS.of (Upd.refl _ _) hP⟩
 have hcall:=eachI_r hR1 hl hb1 ht hg hc hn (fun _=>rfl) (still_true R 3) 125 #[cR R] #[] cf_num _ (fun _=>rfl) hit
 have HC:=qh hcall;have HU0:=qh hU0;have b0:=hB.cell 0;have b1:=hB.cell 1;simp only[qA,qZ,qS]at b0 b1;have hsw:w.heap.size≤(w.alloc (.cells #[.pointer none,.pointer (some ⟨R,0,none⟩)] 136)).heap.size:=hU0.size;clear h hl hb hc hn hnb hU0 hB hR1 hb1 hit hcall;unfold cR at*;go_enter Tryz.func117,Tryz.ntmps117
 go_wp2_with fail
 refine HC.out.mono ?_;rintro e w2 hP;obtain⟨rfl,s,hO,hS⟩:=hP.list;have HO:=qh hO;have HS:=qh hS;clear hP hO hS;go_wp2_with fail
 go_end0;exact⟨rfl,s,HO.out.far fun k hk=>Nat.le_trans hsw (HO.out.new k hk),HS.out.rd,HS.out.blk,HU0.out.any.same HS.out.upd⟩
theorem locks1_r{R g bx t off:Nat}{rest:Bs}{w:World}{cs:Array Value}{x:LockP}(h:RAt w R (lockB x++rest,0))(hl:(lockB x++rest).length≤1000000)(hB:Blk w bx 136 #[.pointer none,.pointer (some ⟨R,0,none⟩)])(hbR:bx≠R)(hbg:bx≠g)(hb:Blk w g t cs)(ht:t≠5)(hg:g≠R)(hx:x.1.length≤32){v0 v1:Value}(h0:cs[off]? =some v0)(h1:cs[off+1]? =some v1):
 Calls Tryz.prog 163 #[.pointer (some ⟨g,off,none⟩),.pointer (some ⟨bx,0,none⟩)] w (RdP R g t rest (putL cs off (lockC x)) w):=by
 have hlb:lockB x++rest=textB x.1++(flagB x.2++rest):=by unfold lockB;rw[qaa]
 rw[hlb]at h hl;have hS0:RdS R g t (textB x.1++(flagB x.2++rest)) cs w w:=⟨h,hb,Upd.refl _ _⟩;have HS0:=qh hS0;have HB:=qh hB;have HL:=qh hl;have HK:=qh (coder_keepR (g:=g) hbR hbg);have HX:=qh hx;have H0:=qh h0;have H1:=qh h1;clear h hl hB hb hx h0 h1 hlb hS0;obtain⟨x1,x2⟩:=x;simp only at*;go_enter Tryz.func163,Tryz.ntmps163
 generalize hww:w=w1 at*;have hS:=HS0.out;have hBx:=HB.out.upd hS.upd (fun e=>by rcases e with e | e<;>omega)
 have b0:=hBx.cell 0;have b1:=hBx.cell 1;simp only[qA,qZ,qS]at b0 b1;have hRd:=hS.rd.upd (Upd.refl Nowhere _).drew id fun _ e=>absurd e id
 have hbd:=hS.blk.upd (Upd.refl Nowhere _).drew id;have hsz:=hS.upd.size;have hcal:=ctext_r (off:=off) hRd HX.out (by have:=HL.out;exact this) hbd ht hg H0.out
 have HC1:=qh hcal;have HBx1:=qh hBx;have HS1:=qh hS;clear hcal hBx hS hRd hbd hsz
 try unfold cR at HC1
 go_wp2_with fail
 go_cut [7] (fun _ wz=>RdS R g t (flagB x2++rest) (cs.setIfInBounds off (strV x1)) w1 wz)
 case first=>
  go_region_held3 (fun w'=>w'.cell? ⟨bx,0,none⟩=some (.pointer none)∧w'.cell? ⟨bx,1,none⟩=some (.pointer (some ⟨R,0,none⟩))) (first | exact⟨b0,b1⟩ | exact k2 | go_keep)
   (first
     | (go_at_call 115
        refine HC1.out.mono ?_;rintro e w2 ⟨rfl,hR2,hb2,hU⟩;have k2:=HK.out _ _ (HBx1.out.drew) hU;have hd:Upd (RdF R g) w1 w2:=HS1.out.upd.same (Upd.same ((Upd.refl Nowhere _).drew).any hU);have HN:=qh ((⟨hR2,hb2,hd⟩:RdS R g t (flagB x2++rest) (cs.setIfInBounds off (strV x1)) w1 w2));clear hd hR2 hb2 hU))
  all_goals
   go_wp2_with fail
   go_meet;exact HN.out
 case rest=>
  have hS:=hcut;have hBx:=HB.out.upd hS.upd (fun e=>by rcases e with e | e<;>omega)
  have b0:=hBx.cell 0;have b1:=hBx.cell 1;simp only[qA,qZ,qS]at b0 b1;have hRd:=hS.rd.upd (Upd.refl Nowhere _).drew id fun _ e=>absurd e id
  have hbd:=hS.blk.upd (Upd.refl Nowhere _).drew id;have hsz:=hS.upd.size;have hcal:=cflag_r (off:=off+1) hRd (by have:=HL.out;simp only[qla]at this ⊢;omega) hbd ht hg (by rw[set_far (by omega)];exact H1.out)
  have HC2:=qh hcal;have HBx2:=qh hBx;have HS2:=qh hS;clear hcal hBx hS hRd hbd hsz
  try unfold cR at HC2
  go_wp2_with fail
  go_region_held3 (fun w'=>w'.cell? ⟨bx,0,none⟩=some (.pointer none)∧w'.cell? ⟨bx,1,none⟩=some (.pointer (some ⟨R,0,none⟩))) (first | exact⟨b0,b1⟩ | exact k2 | go_keep)
   (first
     | (go_at_call 160
        refine HC2.out.mono ?_;rintro e w2 ⟨rfl,hR2,hb2,hU⟩;have k2:=HK.out _ _ (HBx2.out.drew) hU;have hd:Upd (RdF R g) w1 w2:=HS2.out.upd.same (Upd.same ((Upd.refl Nowhere _).drew).any hU);have HN:=qh ((⟨hR2,hb2,hd⟩:RdS R g t rest (putL cs off (lockC (x1,x2))) w1 w2));clear hd hR2 hb2 hU))
  all_goals
   go_wp2_with fail
   go_end0;exact⟨rfl,HN.out.rd,HN.out.blk,HN.out.upd⟩
theorem locks_r{R g t off:Nat}{rest:Bs}{w:World}{cs:Array Value}{L:List LockP}(h:RAt w R (listB lockB L++rest,0))(hl:(listB lockB L++rest).length≤1000000)(hb:Blk w g t cs)(ht:t≠5)(hg:g≠R){A0:Option Addr}{n0 c0:Nat}(hc:cs[off]? =some (.slice A0 n0 c0))(hn:L.length≤256)(hnb:∀x∈L,x.1.length≤32):
 Calls Tryz.prog 118 #[cR R,.pointer (some ⟨g,off,none⟩)] w (ListP R g t 103 2 off cs lockC L rest w):=by
 have hU0:=(Upd.refl Nowhere w).alloc (.cells #[.pointer none,.pointer (some ⟨R,0,none⟩)] 136);have hB:=Blk.new w 136 #[.pointer none,.pointer (some ⟨R,0,none⟩)];have hbR:w.heap.size≠R:=by have:=h.lt;omega
 have hbg:w.heap.size≠g:=by have:=hb.lt;omega
 have hR1:=h.upd hU0 id fun _ e=>absurd e id
 have hb1:=hb.upd hU0 id;have hsw:w.heap.size<(w.alloc (.cells #[.pointer none,.pointer (some ⟨R,0,none⟩)] 136)).heap.size:=hB.lt
 have hit:ItemR R g 103 2 zL (w.alloc (.cells #[.pointer none,.pointer (some ⟨R,0,none⟩)] 136)) L lockB lockC id (fun _ _=>True) 163 (fun x=>#[x,.pointer (some ⟨w.heap.size,0,none⟩)]):=by
  intro i x V w' cs' rest' hx hu hV hrd hl' hb' hz;have hVR:V≠R:=by have:=hR1.lt;omega
  refine(locks1_r (off:=i * 2) hrd hl' (hB.upd hu (fun e=>by rcases e with e | e<;>omega)) hbR (by omega) hb' (by decide) hVR (hnb x (qmg hx)) (hz 0 (by omega)) (hz 1 (by omega))).mono ?_
  intro e w'' hP;exact⟨hP.1,x,rfl,trivial,RdS.of (Upd.refl _ _) hP⟩
 have hcall:=eachL_r hR1 hl hb1 ht hg hc hn (fun _=>rfl) (still_true R 103) 163 #[] #[.pointer (some ⟨w.heap.size,0,none⟩)] cf_locks1 _ (fun _=>rfl) hit
 have HC:=qh hcall;have HU0:=qh hU0;have b0:=hB.cell 0;have b1:=hB.cell 1;simp only[qA,qZ,qS]at b0 b1;clear h hl hb hc hn hnb hU0 hB hR1 hb1 hit hcall;unfold cR at*;go_enter Tryz.func118,Tryz.ntmps118
 go_wp2_with fail
 refine HC.out.mono ?_;rintro e w2 hP;obtain⟨rfl,s,hO,hS⟩:=hP.list;have HO:=qh hO;have HS:=qh hS;clear hP hO hS;go_wp2_with fail
 go_end0;exact⟨rfl,s,HO.out.far fun k hk=>Nat.le_trans (Nat.le_of_lt hsw) (HO.out.new k hk),HS.out.rd,HS.out.blk,HU0.out.any.same HS.out.upd⟩
theorem nums_at{R g t:Nat}{rest:Bs}{w:World}{cs vs:Array Value}{os:List Nat}{ns:List Int}(h:RAt w R (ns.flatMap numZ++rest,0))(hn:∀n∈ns,0≤n∧n≤1099511627776)(hl:(ns.flatMap numZ++rest).length≤1000000)(hb:Blk w g t cs)(ht:t≠5)(hg:g≠R)(hc:allInts cs os)(hlen:os.length=ns.length)(h10:os.length≤10)(hvs:vs=(os.map fun o=>(Value.pointer (some ⟨g,o,none⟩))).toArray):
 Calls Tryz.prog 114 #[cR R,.slice (some ⟨w.heap.size,0,none⟩) os.length os.length] (w.alloc (.cells vs 167)) (RdP R g t rest (setAll cs os ns) (w.alloc (.cells vs 167))):=by
 subst hvs;have hU:=(Upd.refl Nowhere w).alloc (.cells (os.map fun o=>(Value.pointer (some ⟨g,o,none⟩))).toArray 167)
 exact nums_r (h.upd hU id fun _ e=>absurd e id) hn hl (hb.upd hU id) ht hg hc hlen h10 (Blk.new w _ _) (by have:=h.lt;omega) (by have:=hb.lt;omega)
def rowOk(B:Nat)(w:World)(q:RowW):Prop:=OwnR 3 intC 1 B w (slV q.mem) q.p.mem∧OwnR 103 lockC 2 B w (slV q.loc) q.p.loc
def deedOk(B:Nat)(w:World)(q:DeedV):Prop:=OwnR 3 intC 1 B w (slV q.mem) q.p.2
theorem still_row{B R:Nat}(hR:R<B):Still R 105 (rowOk B):=fun _ _ _ _ _ h hb hu=>⟨h.1.keepR hR hb (by decide) hu,h.2.keepR hR hb (by decide) hu⟩
theorem still_deed{B R:Nat}(hR:R<B):Still R 107 (deedOk B):=fun _ _ _ _ _ h hb hu=>OwnR.keepR h hR hb (by decide) hu
structure RowP.readable(x:RowP):Prop where
 ns:∀n∈([x.tx,x.state,x.first,x.last,x.undo,x.coord]:List Int),0≤n∧n≤1099511627776
 ml:x.mem.length≤256
 mb:∀n∈x.mem,0≤n∧n≤1099511627776
 ll:x.loc.length≤256
 lb:∀y∈x.loc,y.1.length≤32
theorem row_r{R g t off B:Nat}{rest:Bs}{w:World}{cs:Array Value}{x:RowP}(h:RAt w R (rowB x++rest,0))(hl:(rowB x++rest).length≤1000000)(hb:Blk w g t cs)(ht:t≠5)(hti:3≠t)(hg:g≠R)(hB0:B≤w.heap.size)(hRB:R<B)(hx:x.readable)(hz:∀j,j<8→cs[off+j]? =zR[j]?):
 Calls Tryz.prog 120 #[cR R,.pointer (some ⟨g,off,none⟩)] w fun e w'=>e= .returned (.tuple #[])∧∃q:RowW,q.p=x∧rowOk B w' q∧RdS R g t rest (putL cs off q.cells) w w':=by
 have hU0:=(Upd.refl Nowhere w).alloc (.cells #[.pointer none,.pointer (some ⟨R,0,none⟩)] 136);have hB:=Blk.new w 136 #[.pointer none,.pointer (some ⟨R,0,none⟩)];have hbR:w.heap.size≠R:=by have:=h.lt;omega
 have hbg:w.heap.size≠g:=by have:=hb.lt;omega
 have hR1:=h.upd hU0 id fun _ e=>absurd e id
 have hb1:=hb.upd hU0 id;have hrb:rowB x++rest=([x.tx,x.state,x.first,x.last,x.undo,x.coord]:List Int).flatMap numZ++(listB numZ x.mem++(listB lockB x.loc++rest)):=by simp[rowB]
 rw[hrb]at hR1 hl;obtain⟨tx,state,first,last,undo,coord,pm,pl⟩:=x;obtain⟨x0,x1,x2,x3,x4⟩:=hx;simp only at x0 x1 x2 x3 x4 hR1 hl;have z0:=hz 0 (by omega)
 have z1:=hz 1 (by omega)
 have z2:=hz 2 (by omega)
 have z3:=hz 3 (by omega)
 have z4:=hz 4 (by omega)
 have z5:=hz 5 (by omega)
 have z6:=hz 6 (by omega)
 have z7:=hz 7 (by omega)
 simp only[zR,qZ,qS,Nat.add_zero]at z0 z1 z2 z3 z4 z5 z6 z7
 have hai:allInts cs [off,off+1,off+2,off+3,off+4,off+5]:=by
  intro o ho;simp only[qmc,List.not_mem_nil,or_false]at ho
  rcases ho with rfl | rfl | rfl | rfl | rfl | rfl
  ·exact⟨0,z0⟩
  ·exact⟨0,z1⟩
  ·exact⟨0,z2⟩
  ·exact⟨0,z3⟩
  ·exact⟨0,z4⟩
  ·exact⟨0,z5⟩
 generalize hnb:([tx,state,first,last,undo,coord]:List Int).flatMap numZ=nb at*;have hS0:RdS R g t (nb++(listB numZ pm++(listB lockB pl++rest))) cs (w.alloc (.cells #[.pointer none,.pointer (some ⟨R,0,none⟩)] 136)) (w.alloc (.cells #[.pointer none,.pointer (some ⟨R,0,none⟩)] 136)):=⟨hR1,hb1,Upd.refl _ _⟩;have HS0:=qh hS0;have HNB:=qh hnb;have HK:=qh (coder_keepR (g:=g) hbR hbg);have HU0:=qh hU0;have HB:=qh hB;have HL:=qh hl;have HAI:=qh hai;have X0:=qh x0;have X1:=qh x1;have X2:=qh x2;have X3:=qh x3;have X4:=qh x4;have Z6:=qh z6;have Z7:=qh z7;have HB0:=qh hB0;clear h hl hb hz hU0 hB hR1 hb1 hrb x0 x1 x2 x3 x4 z0 z1 z2 z3 z4 z5 z6 z7 hai hnb hS0 hB0;unfold cR at*;go_enter Tryz.func120,Tryz.ntmps120
 go_wp2_with fail
 have hsw:w.heap.size≤(w.alloc (.cells #[.pointer none,.pointer (some ⟨R,0,none⟩)] 136)).heap.size:=HU0.out.size;generalize w.alloc (.cells #[.pointer none,.pointer (some ⟨R,0,none⟩)] 136)=w1 at*;generalize hbx:w.heap.size=bx at*;have hS:=HS0.out;have hBx:=HB.out.upd hS.upd (fun e=>by rcases e with e | e<;>omega)
 have b0:=hBx.cell 0;have b1:=hBx.cell 1;simp only[qA,qZ,qS]at b0 b1;have hRd:=hS.rd.upd (Upd.refl Nowhere _).drew id fun _ e=>absurd e id
 have hbd:=hS.blk.upd (Upd.refl Nowhere _).drew id;have hsz:=hS.upd.size;have hcal:=nums_at (os:=[off,off+1,off+2,off+3,off+4,off+5]) (ns:=[tx,state,first,last,undo,coord]) (rest:=listB numZ pm++(listB lockB pl++rest)) (by rw[HNB.out];exact hRd) X0.out (by rw[HNB.out];exact HL.out) hbd ht hg HAI.out rfl (by simp) rfl
 have HC1:=qh hcal;have HBx1:=qh hBx;have HS1:=qh hS;clear hcal hBx hS hRd hbd hsz
 try unfold cR at HC1
 go_wp2_with fail
 go_cut [24] (fun _ wz=>RdS R g t (listB numZ pm++(listB lockB pl++rest)) (setAll cs [off,off+1,off+2,off+3,off+4,off+5] [tx,state,first,last,undo,coord]) w1 wz)
 case first=>
  go_region_held3 (fun w'=>w'.cell? ⟨bx,0,none⟩=some (.pointer none)∧w'.cell? ⟨bx,1,none⟩=some (.pointer (some ⟨R,0,none⟩))) (first | exact⟨b0,b1⟩ | exact k2 | go_keep)
   (first
     | (go_at_call 114
        refine HC1.out.mono ?_;rintro e w2 ⟨rfl,hR2,hb2,hU⟩;have k2:=HK.out _ _ (HBx1.out.drew.alloc _) hU;have hd:Upd (RdF R g) w1 w2:=HS1.out.upd.same (Upd.same ((Upd.refl Nowhere _).drew.alloc _).any hU);have HN:=qh ((⟨hR2,hb2,hd⟩:RdS R g t (listB numZ pm++(listB lockB pl++rest)) (setAll cs [off,off+1,off+2,off+3,off+4,off+5] [tx,state,first,last,undo,coord]) w1 w2));clear hd hR2 hb2 hU))
  all_goals
   go_wp2_with fail
   go_meet;exact HN.out
 case rest=>
  have hS:=hcut;have hBx:=HB.out.upd hS.upd (fun e=>by rcases e with e | e<;>omega)
  have b0:=hBx.cell 0;have b1:=hBx.cell 1;simp only[qA,qZ,qS]at b0 b1;have hRd:=hS.rd.upd (Upd.refl Nowhere _).drew id fun _ e=>absurd e id
  have hbd:=hS.blk.upd (Upd.refl Nowhere _).drew id;have hsz:=hS.upd.size;have hcal:=ints_r (off:=off+6) hRd (by have:=HL.out;simp only[qla]at this ⊢;omega) hbd ht hg (by simp only[setAll];rw[set_far (by omega),set_far (by omega),set_far (by omega),set_far (by omega),set_far (by omega),set_far (by omega)];exact Z6.out) X1.out X2.out
  have HC2:=qh hcal;have HBx2:=qh hBx;have HS2:=qh hS;clear hcal hBx hS hRd hbd hsz
  try unfold cR at HC2
  go_wp2_with fail
  go_cut [29] (fun _ wz=>∃s:SlT,OwnR 3 intC 1 B wz (slV s) pm∧RdS R g t (listB lockB pl++rest) ((setAll cs [off,off+1,off+2,off+3,off+4,off+5] [tx,state,first,last,undo,coord]).setIfInBounds (off+6) (slV s)) w1 wz)
  case first=>
   go_region_held3 (fun w'=>w'.cell? ⟨bx,0,none⟩=some (.pointer none)∧w'.cell? ⟨bx,1,none⟩=some (.pointer (some ⟨R,0,none⟩))) (first | exact⟨b0,b1⟩ | exact k2 | go_keep)
    (first
      | (go_at_call 117
         refine HC2.out.mono ?_;rintro e w2 ⟨rfl,s,hO,hX⟩;have k2:=HK.out _ _ (HBx2.out.drew) hX.upd;have hd:Upd (RdF R g) w1 w2:=HS2.out.upd.same (Upd.same ((Upd.refl Nowhere _).drew).any hX.upd);have HN:=qh ((⟨s,hO.far (fun k hk=>Nat.le_trans (Nat.le_trans HB0.out (Nat.le_trans hsw HS2.out.upd.size)) (hO.new k hk)),hX.rd,hX.blk,hd⟩:∃s:SlT,OwnR 3 intC 1 B w2 (slV s) pm∧RdS R g t (listB lockB pl++rest) ((setAll cs [off,off+1,off+2,off+3,off+4,off+5] [tx,state,first,last,undo,coord]).setIfInBounds (off+6) (slV s)) w1 w2))
         clear hd hO hX))
   all_goals
    go_wp2_with fail
    go_meet;exact HN.out
  case rest=>
   obtain⟨s,hO,hS⟩:=hcut;have hBx:=HB.out.upd hS.upd (fun e=>by rcases e with e | e<;>omega)
   have b0:=hBx.cell 0;have b1:=hBx.cell 1;simp only[qA,qZ,qS]at b0 b1;have hRd:=hS.rd.upd (Upd.refl Nowhere _).drew id fun _ e=>absurd e id
   have hbd:=hS.blk.upd (Upd.refl Nowhere _).drew id;have hsz:=hS.upd.size;have hbz:=hS.blk.upd (Upd.refl Nowhere _).drew id;have HBZ:=qh hbz;have HO:=qh (OwnR.upd (F:=Nowhere) hO (Upd.refl Nowhere _).drew fun _ _=>id)
   clear hbz hO;have hcal:=locks_r (off:=off+7) hRd (by have:=HL.out;simp only[qla]at this ⊢;omega) hbd ht hg (by rw[set_far (by omega)];simp only[setAll];rw[set_far (by omega),set_far (by omega),set_far (by omega),set_far (by omega),set_far (by omega),set_far (by omega)];exact Z7.out) X3.out X4.out
   have HC3:=qh hcal;have HBx3:=qh hBx;have HS3:=qh hS;clear hcal hBx hS hRd hbd hsz
   try unfold cR at HC3
   go_wp2_with fail
   go_region_held3 (fun w'=>w'.cell? ⟨bx,0,none⟩=some (.pointer none)∧w'.cell? ⟨bx,1,none⟩=some (.pointer (some ⟨R,0,none⟩))) (first | exact⟨b0,b1⟩ | exact k2 | go_keep)
    (first
      | (go_at_call 118
         refine HC3.out.mono ?_;rintro e w2 ⟨rfl,s',hO,hX⟩;have k2:=HK.out _ _ (HBx3.out.drew) hX.upd;have hd:Upd (RdF R g) w1 w2:=HS3.out.upd.same (Upd.same ((Upd.refl Nowhere _).drew).any hX.upd);have HN:=qh ((⟨⟨⟨tx,state,first,last,undo,coord,pm,pl⟩,s,s'⟩,rfl,⟨HO.out.keepR hRB HBZ.out hti hX.upd,hO.far (fun k hk=>Nat.le_trans (Nat.le_trans HB0.out (Nat.le_trans hsw HS3.out.upd.size)) (hO.new k hk))⟩,hX.rd,hX.blk,hd⟩:∃q:RowW,q.p=⟨tx,state,first,last,undo,coord,pm,pl⟩∧rowOk B w2 q∧RdS R g t rest (putL cs off q.cells) w1 w2))
         clear hd hO hX))
   all_goals
    go_wp2_with fail
    go_end0;obtain⟨q,h1,h2,h3⟩:=HN.out;exact⟨rfl,q,h1,h2,h3.rd,h3.blk,HU0.out.any.same h3.upd⟩
theorem dirty_r{R g bx t off:Nat}{rest:Bs}{w:World}{cs:Array Value}{x:Int×Int}(h:RAt w R (dirB x++rest,0))(hl:(dirB x++rest).length≤1000000)(hB:Blk w bx 136 #[.pointer none,.pointer (some ⟨R,0,none⟩)])(hbR:bx≠R)(hbg:bx≠g)(hb:Blk w g t cs)(ht:t≠5)(hg:g≠R)(hx:∀n∈([x.1,x.2]:List Int),0≤n∧n≤1099511627776){v0 v1:Int}(h0:cs[off]? =some (.int .i64 v0))(h1:cs[off+1]? =some (.int .i64 v1)):
 Calls Tryz.prog 122 #[.pointer (some ⟨g,off,none⟩),.pointer (some ⟨bx,0,none⟩)] w (RdP R g t rest (putL cs off (dirC x)) w):=by
 have hlb:dirB x++rest=([x.1,x.2]:List Int).flatMap numZ++rest:=by simp[dirB]
 rw[hlb]at h hl
 have hai:allInts cs [off,off+1]:=by
  intro o ho;simp only[qmc,List.not_mem_nil,or_false]at ho
  rcases ho with rfl | rfl
  ·exact⟨v0,h0⟩
  ·exact⟨v1,h1⟩
 have hS0:RdS R g t (([x.1,x.2]:List Int).flatMap numZ++rest) cs w w:=⟨h,hb,Upd.refl _ _⟩;have HS0:=qh hS0;have HB:=qh hB;have HL:=qh hl;have HK:=qh (coder_keepR (g:=g) hbR hbg);have HX:=qh hx;have HAI:=qh hai;clear h hl hB hb hx h0 h1 hlb hS0 hai;obtain⟨x1,x2⟩:=x;simp only at*;go_enter Tryz.func122,Tryz.ntmps122
 generalize hww:w=w1 at*;have hS:=HS0.out;have hBx:=HB.out.upd hS.upd (fun e=>by rcases e with e | e<;>omega)
 have b0:=hBx.cell 0;have b1:=hBx.cell 1;simp only[qA,qZ,qS]at b0 b1;have hRd:=hS.rd.upd (Upd.refl Nowhere _).drew id fun _ e=>absurd e id
 have hbd:=hS.blk.upd (Upd.refl Nowhere _).drew id;have hsz:=hS.upd.size;have hcal:=nums_at (os:=[off,off+1]) (ns:=[x1,x2]) (rest:=rest) hRd HX.out HL.out hbd ht hg HAI.out rfl (by simp) rfl
 have HC1:=qh hcal;have HBx1:=qh hBx;have HS1:=qh hS;clear hcal hBx hS hRd hbd hsz
 try unfold cR at HC1
 go_wp2_with fail
 go_region_held3 (fun w'=>w'.cell? ⟨bx,0,none⟩=some (.pointer none)∧w'.cell? ⟨bx,1,none⟩=some (.pointer (some ⟨R,0,none⟩))) (first | exact⟨b0,b1⟩ | exact k2 | go_keep)
  (first
    | (go_at_call 114
       refine HC1.out.mono ?_;rintro e w2 ⟨rfl,hR2,hb2,hU⟩;have k2:=HK.out _ _ (HBx1.out.drew.alloc _) hU;have hd:Upd (RdF R g) w1 w2:=HS1.out.upd.same (Upd.same ((Upd.refl Nowhere _).drew.alloc _).any hU);have HN:=qh ((⟨hR2,hb2,hd⟩:RdS R g t rest (putL cs off (dirC (x1,x2))) w1 w2));clear hd hR2 hb2 hU))
 all_goals
  go_wp2_with fail
  go_end0;exact⟨rfl,HN.out.rd,HN.out.blk,HN.out.upd⟩
theorem deed_r{R g bx t off B:Nat}{rest:Bs}{w:World}{cs:Array Value}{x:Int×List Int}(h:RAt w R (deeB x++rest,0))(hl:(deeB x++rest).length≤1000000)(hB:Blk w bx 136 #[.pointer none,.pointer (some ⟨R,0,none⟩)])(hbR:bx≠R)(hbg:bx≠g)(hb:Blk w g t cs)(ht:t≠5)(hg:g≠R)(hB0:B≤w.heap.size)(hx0:0≤x.1∧x.1≤1099511627776)(hx1:x.2.length≤256)(hx2:∀n∈x.2,0≤n∧n≤1099511627776){v0:Int}{A1:Option Addr}{n1 c1:Nat}(h0:cs[off]? =some (.int .i64 v0))(h1:cs[off+1]? =some (.slice A1 n1 c1)):
 Calls Tryz.prog 124 #[.pointer (some ⟨g,off,none⟩),.pointer (some ⟨bx,0,none⟩)] w fun e w'=>e= .returned (.tuple #[])∧∃q:DeedV,q.p=x∧deedOk B w' q∧RdS R g t rest (putL cs off q.cells) w w':=by
 have hlb:deeB x++rest=numZ x.1++(listB numZ x.2++rest):=by unfold deeB;rw[qaa]
 rw[hlb]at h hl;have hS0:RdS R g t (numZ x.1++(listB numZ x.2++rest)) cs w w:=⟨h,hb,Upd.refl _ _⟩;have HS0:=qh hS0;have HB:=qh hB;have HL:=qh hl;have HK:=qh (coder_keepR (g:=g) hbR hbg);have X0:=qh hx0;have X1:=qh hx1;have X2:=qh hx2;have H0:=qh h0;have H1:=qh h1;have HB0:=qh hB0;clear h hl hB hb hx0 hx1 hx2 h0 h1 hlb hS0 hB0;obtain⟨x1,x2⟩:=x;simp only at*;go_enter Tryz.func124,Tryz.ntmps124
 generalize hww:w=w1 at*;have hS:=HS0.out;have hBx:=HB.out.upd hS.upd (fun e=>by rcases e with e | e<;>omega)
 have b0:=hBx.cell 0;have b1:=hBx.cell 1;simp only[qA,qZ,qS]at b0 b1;have hRd:=hS.rd.upd (Upd.refl Nowhere _).drew id fun _ e=>absurd e id
 have hbd:=hS.blk.upd (Upd.refl Nowhere _).drew id;have hsz:=hS.upd.size;have hcal:=cnum_r (off:=off) hRd X0.out HL.out hbd ht hg H0.out;have HC1:=qh hcal;have HBx1:=qh hBx;have HS1:=qh hS;clear hcal hBx hS hRd hbd hsz
 try unfold cR at HC1
 go_wp2_with fail
 go_cut [7] (fun _ wz=>RdS R g t (listB numZ x2++rest) (cs.setIfInBounds off (.int .i64 x1)) w1 wz)
 case first=>
  go_region_held3 (fun w'=>w'.cell? ⟨bx,0,none⟩=some (.pointer none)∧w'.cell? ⟨bx,1,none⟩=some (.pointer (some ⟨R,0,none⟩))) (first | exact⟨b0,b1⟩ | exact k2 | go_keep)
   (first
     | (go_at_call 125
        refine HC1.out.mono ?_;rintro e w2 ⟨rfl,hR2,hb2,hU⟩;have k2:=HK.out _ _ (HBx1.out.drew) hU;have hd:Upd (RdF R g) w1 w2:=HS1.out.upd.same (Upd.same ((Upd.refl Nowhere _).drew).any hU);have HN:=qh ((⟨hR2,hb2,hd⟩:RdS R g t (listB numZ x2++rest) (cs.setIfInBounds off (.int .i64 x1)) w1 w2));clear hd hR2 hb2 hU))
  all_goals
   go_wp2_with fail
   go_meet;exact HN.out
 case rest=>
  have hS:=hcut;have hBx:=HB.out.upd hS.upd (fun e=>by rcases e with e | e<;>omega)
  have b0:=hBx.cell 0;have b1:=hBx.cell 1;simp only[qA,qZ,qS]at b0 b1;have hRd:=hS.rd.upd (Upd.refl Nowhere _).drew id fun _ e=>absurd e id
  have hbd:=hS.blk.upd (Upd.refl Nowhere _).drew id;have hsz:=hS.upd.size;have hcal:=ints_r (off:=off+1) hRd (by have:=HL.out;simp only[qla]at this ⊢;omega) hbd ht hg (by rw[set_far (by omega)];exact H1.out) X1.out X2.out
  have HC2:=qh hcal;have HBx2:=qh hBx;have HS2:=qh hS;clear hcal hBx hS hRd hbd hsz
  try unfold cR at HC2
  go_wp2_with fail
  go_region_held3 (fun w'=>w'.cell? ⟨bx,0,none⟩=some (.pointer none)∧w'.cell? ⟨bx,1,none⟩=some (.pointer (some ⟨R,0,none⟩))) (first | exact⟨b0,b1⟩ | exact k2 | go_keep)
   (first
     | (go_at_call 117
        refine HC2.out.mono ?_;rintro e w2 ⟨rfl,s,hO,hX⟩;have k2:=HK.out _ _ (HBx2.out.drew) hX.upd;have hd:Upd (RdF R g) w1 w2:=HS2.out.upd.same (Upd.same ((Upd.refl Nowhere _).drew).any hX.upd);have HN:=qh ((⟨⟨(x1,x2),s⟩,rfl,hO.far (fun k hk=>Nat.le_trans (Nat.le_trans HB0.out HS2.out.upd.size) (hO.new k hk)),hX.rd,hX.blk,hd⟩:∃q:DeedV,q.p=(x1,x2)∧deedOk B w2 q∧RdS R g t rest (putL cs off q.cells) w1 w2))
        clear hd hO hX))
  all_goals
   go_wp2_with fail
   go_end0;obtain⟨q,h1,h2,h3⟩:=HN.out;exact⟨rfl,q,h1,h2,h3⟩
theorem rows_r{R g t off B:Nat}{rest:Bs}{w:World}{cs:Array Value}{L:List RowP}(h:RAt w R (listB rowB L++rest,0))(hl:(listB rowB L++rest).length≤1000000)(hb:Blk w g t cs)(ht:t≠5)(hg:g≠R){A0:Option Addr}{n0 c0:Nat}(hc:cs[off]? =some (.slice A0 n0 c0))(hn:L.length≤256)(hB0:B≤w.heap.size)(hRB:R<B)(hgd:∀x∈L,x.readable):
 Calls Tryz.prog 119 #[cR R,.pointer (some ⟨g,off,none⟩),.func (.func 120) #[cR R] #[]] w (EachP R g t 105 8 off cs RowW.cells (fun q=>q.p) (rowOk B) L rest w):=by
 refine eachR_r h hl hb ht hg hc hn (fun _=>rfl) (still_row hRB) 120 #[cR R] #[] cf_row (fun x=>#[cR R,x]) (fun _=>rfl) ?_
 intro i x V w' cs' rest' hx hu hV hrd hl' hb' hz;have hlt:=h.lt;have hs:=hu.size;exact row_r (off:=i * 8) hrd hl' hb' (by decide) (by decide) (by omega) (by omega) hRB (hgd x (qmg hx)) hz
theorem dirs_r{R g t off bx:Nat}{rest:Bs}{w:World}{cs:Array Value}{L:List (Int×Int)}(h:RAt w R (listB dirB L++rest,0))(hl:(listB dirB L++rest).length≤1000000)(hB:Blk w bx 136 #[.pointer none,.pointer (some ⟨R,0,none⟩)])(hbR:bx≠R)(hbg:bx≠g)(hb:Blk w g t cs)(ht:t≠5)(hg:g≠R){A0:Option Addr}{n0 c0:Nat}(hc:cs[off]? =some (.slice A0 n0 c0))(hn:L.length≤256)(hgd:∀x∈L,∀n∈([x.1,x.2]:List Int),0≤n∧n≤1099511627776):
 Calls Tryz.prog 121 #[cR R,.pointer (some ⟨g,off,none⟩),.func (.func 122) #[] #[.pointer (some ⟨bx,0,none⟩)]] w (ListP R g t 154 2 off cs dirC L rest w):=by
 have hlt:=h.lt;have hBl:=hB.lt
 have hit:ItemR R g 154 2 zD w L dirB dirC id (fun _ _=>True) 122 (fun x=>#[x,.pointer (some ⟨bx,0,none⟩)]):=by
  intro i x V w' cs' rest' hx hu hV hrd hl' hb' hz;refine(dirty_r (off:=i * 2) hrd hl' (hB.upd hu (fun e=>by rcases e with e | e<;>omega)) hbR (by omega) hb' (by decide) (by omega) (hgd x (qmg hx)) (v0:=0) (v1:=0) (hz 0 (by omega)) (hz 1 (by omega))).mono ?_
  intro e w'' hP;exact⟨hP.1,x,rfl,trivial,RdS.of (Upd.refl _ _) hP⟩
 exact(eachD_r h hl hb ht hg hc hn (fun _=>rfl) (still_true R 154) 122 #[] #[.pointer (some ⟨bx,0,none⟩)] cf_fields1 _ (fun _=>rfl) hit).mono fun e w' hP=>hP.list
theorem dees_r{R g t off bx B:Nat}{rest:Bs}{w:World}{cs:Array Value}{L:List (Int×List Int)}(h:RAt w R (listB deeB L++rest,0))(hl:(listB deeB L++rest).length≤1000000)(hB:Blk w bx 136 #[.pointer none,.pointer (some ⟨R,0,none⟩)])(hbR:bx≠R)(hbg:bx≠g)(hb:Blk w g t cs)(ht:t≠5)(hg:g≠R){A0:Option Addr}{n0 c0:Nat}(hc:cs[off]? =some (.slice A0 n0 c0))(hn:L.length≤256)(hB0:B≤w.heap.size)(hRB:R<B)(hgd:∀x∈L,(0≤x.1∧x.1≤1099511627776)∧x.2.length≤256∧∀n∈x.2,0≤n∧n≤1099511627776):
 Calls Tryz.prog 123 #[cR R,.pointer (some ⟨g,off,none⟩),.func (.func 124) #[] #[.pointer (some ⟨bx,0,none⟩)]] w (EachP R g t 107 2 off cs DeedV.cells (fun q=>q.p) (deedOk B) L rest w):=by
 have hlt:=h.lt;have hBl:=hB.lt;refine eachE_r h hl hb ht hg hc hn (fun _=>rfl) (still_deed hRB) 124 #[] #[.pointer (some ⟨bx,0,none⟩)] cf_fields2 (fun x=>#[x,.pointer (some ⟨bx,0,none⟩)]) (fun _=>rfl) ?_
 intro i x V w' cs' rest' hx hu hV hrd hl' hb' hz;have hs:=hu.size;have hd:=hgd x (qmg hx);exact deed_r (off:=i * 2) hrd hl' (hB.upd hu (fun e=>by rcases e with e | e<;>omega)) hbR (by omega) hb' (by decide) (by omega) (by omega) hd.1 hd.2.1 hd.2.2 (v0:=0) (hz 0 (by omega)) (hz 1 (by omega))
def RowsN(B:Nat)(w:World)(s:SlT)(L:List RowP):Prop:=∃rs:List RowW,OwnR 105 RowW.cells 8 B w (slV s) rs∧rs.map (fun q=>q.p)=L∧∀q∈rs,rowOk B w q
def DeesN(B:Nat)(w:World)(s:SlT)(L:List (Int×List Int)):Prop:=∃ds:List DeedV,OwnR 107 DeedV.cells 2 B w (slV s) ds∧ds.map (fun q=>q.p)=L∧∀q∈ds,deedOk B w q
theorem RowsN.keepR{B R X:Nat}{w w':World}{s:SlT}{L:List RowP}{cs:Array Value}(h:RowsN B w s L)(hR:R<B)(hb:Blk w X 38 cs)(hu:Upd (RdF R X) w w'):RowsN B w' s L:=by
 obtain⟨rs,h1,h2,h3⟩:=h;exact⟨rs,h1.keepR hR hb (by decide) hu,h2,fun q hq=>⟨(h3 q hq).1.keepR hR hb (by decide) hu,(h3 q hq).2.keepR hR hb (by decide) hu⟩⟩
theorem DeesN.keepR{B R X:Nat}{w w':World}{s:SlT}{L:List (Int×List Int)}{cs:Array Value}(h:DeesN B w s L)(hR:R<B)(hb:Blk w X 38 cs)(hu:Upd (RdF R X) w w'):DeesN B w' s L:=by
 obtain⟨ds,h1,h2,h3⟩:=h;exact⟨ds,h1.keepR hR hb (by decide) hu,h2,fun q hq=>OwnR.keepR (h3 q hq) hR hb (by decide) hu⟩
structure RecN(B:Nat)(w:World)(x:RecP)(s:Sls):Prop where
 mem:OwnR 3 intC 1 B w (slV s.mem) x.mem
 loc:OwnR 103 lockC 2 B w (slV s.loc) x.loc
 row:RowsN B w s.row x.row
 dir:OwnR 154 dirC 2 B w (slV s.dir) x.dir
 dee:DeesN B w s.dee x.dee
 pas:OwnR 3 intC 1 B w (slV s.pas) x.pas
theorem RecN.upd{B:Nat}{F:Nat→Prop}{w w':World}{x:RecP}{s:Sls}(h:RecN B w x s)(hu:Upd F w w')(hF:∀k,B≤k→k<w.heap.size→¬F k):RecN B w' x s:=by
 have go:∀{TE sz:Nat} {α:Type} {cells:α→List Value} {v:Value} {L:List α},OwnR TE cells sz B w v L→OwnR TE cells sz B w' v L:=fun h=>h.upd hu fun k hk=>hF k (h.new k hk) (h.lt hk)
 obtain⟨rs,a1,a2,a3⟩:=h.row;obtain⟨ds,b1,b2,b3⟩:=h.dee;exact⟨go h.mem,go h.loc,⟨rs,go a1,a2,fun q hq=>⟨go (a3 q hq).1,go (a3 q hq).2⟩⟩,go h.dir,⟨ds,go b1,b2,fun q hq=>go (b3 q hq)⟩,go h.pas⟩
theorem RecN.recE{B:Nat}{w:World}{x:RecP}{s:Sls}(h:RecN B w x s):RecE w x s:=by
 obtain⟨rs,a1,a2,a3⟩:=h.row;obtain⟨ds,b1,b2,b3⟩:=h.dee;exact⟨h.mem.els,h.loc.els,⟨rs,a1.els,a2,fun q hq=>⟨(a3 q hq).1.els,(a3 q hq).2.els⟩⟩,h.dir.els,⟨ds,b1.els,b2,fun q hq=>(b3 q hq).els⟩,h.pas.els⟩
theorem nilN{TE sz:Nat}{α:Type}(cells:α→List Value)(B:Nat)(w:World):OwnR TE cells sz B w (slV (none,0,0)) []:=OwnR.nil _ _ _ _ _
theorem rowsN_nil(B:Nat)(w:World):RowsN B w (none,0,0) []:=⟨[],nilN _ _ _,rfl,fun q hq=>by cases hq⟩
theorem deesN_nil(B:Nat)(w:World):DeesN B w (none,0,0) []:=⟨[],nilN _ _ _,rfl,fun q hq=>by cases hq⟩
def FldP(R X B:Nat)(x:RecP)(rest:Bs)(w:World)(e:Ending)(w':World):Prop:=e= .returned (.tuple #[])∧∃s:Sls,RecN B w' x s∧RdS R X 38 rest (x.rv s).cells.toArray w w'
end Go.Proofs.YtljmmkjdlcfkpaaGreatDoor
