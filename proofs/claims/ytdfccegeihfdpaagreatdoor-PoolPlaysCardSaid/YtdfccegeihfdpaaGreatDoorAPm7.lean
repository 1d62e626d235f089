/-
  The log and all below it: part 7 of 10 (merged by mergew.py).
-/
import Derived.Test.YtdfccegeihfdpaaGreatDoorAPm6
set_option maxRecDepth 100000
set_option maxHeartbeats 2000000
namespace Go.Proofs.YtdfccegeihfdpaaGreatDoor
open Go Go.RowKit
structure Sls where
 mem:SlT
 loc:SlT
 row:SlT
 dir:SlT
 dee:SlT
 pas:SlT
def RecP.rv(x:RecP)(s:Sls):RecV:=⟨x.kind,x.tx,x.prev,x.next,x.key,x.oh,x.od,x.nh,x.nd,x.coord,s.mem,s.loc,s.row,s.dir,s.dee,s.pas⟩
structure RecE(w:World)(x:RecP)(s:Sls):Prop where
 mem:Els 1 intC w (slV s.mem) x.mem
 loc:Els 2 lockC w (slV s.loc) x.loc
 row:∃rs:List RowW,Els 8 RowW.cells w (slV s.row) rs∧rs.map (·.p)=x.row∧∀q∈rs,q.old w
 dir:Els 2 dirC w (slV s.dir) x.dir
 dee:∃ds:List DeedV,Els 2 DeedV.cells w (slV s.dee) ds∧ds.map (·.p)=x.dee∧∀q∈ds,Els 1 intC w (slV q.mem) q.p.2
 pas:Els 1 intC w (slV s.pas) x.pas
structure RecP.good(x:RecP):Prop where
 kind:Num63 x.kind
 tx:Num63 x.tx
 prev:Num63 x.prev
 next:Num63 x.next
 coord:Num63 x.coord
 key:x.key.length≤5000
 od:x.od.length≤5000
 nd:x.nd.length≤5000
 ml:x.mem.length≤300
 mb:∀n∈x.mem,Num63 n
 ll:x.loc.length≤300
 lb:∀y∈x.loc,y.1.length≤5000
 rl:x.row.length≤300
 rb:∀r∈x.row,r.good
 dl:x.dir.length≤300
 db:∀d∈x.dir,Num63 d.1∧Num63 d.2
 el:x.dee.length≤300
 eb:∀d∈x.dee,Num63 d.1∧d.2.length≤300∧∀n∈d.2,Num63 n
 pl:x.pas.length≤300
 pb:∀n∈x.pas,Num63 n
 len:x.bytes.length≤80000
theorem listB_map{α β:Type}(f:β→Bs)(g:α→β)(l:List α):listB (fun a=>f (g a)) l=listB f (l.map g):=by
 unfold listB;rw[qlm,List.flatMap_map]
theorem cf_row(args:Array Value)(w:World):(callFunc 188 args).run Tryz.prog w= .ok (.enter 188 args) w:=by kernel_rfl
theorem cf_fields1(args:Array Value)(w:World):(callFunc 190 args).run Tryz.prog w= .ok (.enter 190 args) w:=by kernel_rfl
theorem cf_fields2(args:Array Value)(w:World):(callFunc 192 args).run Tryz.prog w= .ok (.enter 192 args) w:=by kernel_rfl
theorem rows_w{B W:Nat}{l:Bs}{w0 w:World}(h0:Old B w0 w)(h:WAt B w W l){g off:Nat}(hg:g<w0.heap.size){v:Value}(hc:w0.cell? ⟨g,off,none⟩=some v){rs:List RowW}(hE:Els 8 RowW.cells w0 v rs)(ho:∀q∈rs,q.old w0)(hgd:∀q∈rs,q.p.good)(hn:rs.length≤300)(hl:l.length+(listB (fun r:RowW=>rowB r.p) rs).length≤85000):
 Calls Tryz.prog 187 #[cW W,.pointer (some ⟨g,off,none⟩),.func (.func 188) #[cW W] #[]] w (WrP B W (l++listB (fun r:RowW=>rowB r.p) rs) w):=by
 have hge:=h.ge;refine eachR_w h (h0.lt hg) (h0.far hg hge) ((h0.cell hg).trans hc) (fun _=>rfl) (h0.els hE) hn (fun r:RowW=>rowB r.p) 188 #[cW W] #[] cf_row (fun x=>#[cW W,x]) (fun _=>rfl) ?_ hl
 intro i x b o n c w' l' hv hx hW' hu' hl';obtain⟨b',o',c',e,hb',hq⟩:=hE.get (fun _=>rfl) hx
 rw[hv]at e;injection e with e1 e2 e3
 injection e1 with e1
 injection e1 with e1 e4 _
 subst e1 e4
 exact row_w (h0.wr hge hu') hW' hb' x (fun j u hj=>by
  have hj':j<8:=(qei.1 hj).1;rw[hq j hj',hj]) (ho x (qmg hx)) (hgd x (qmg hx)) hl'
theorem dirs_w{B W bx:Nat}{l:Bs}{w0 w:World}(h0:Old B w0 w)(h:WAt B w W l)(hB:Blk w bx 214 #[.pointer (some ⟨W,0,none⟩),.pointer none])(hne:bx≠W){g off:Nat}(hg:g<w0.heap.size){v:Value}(hc:w0.cell? ⟨g,off,none⟩=some v){L:List (Int×Int)}(hE:Els 2 dirC w0 v L)(hgd:∀d∈L,Num63 d.1∧Num63 d.2)(hn:L.length≤300)(hl:l.length+(listB dirB L).length≤85000):
 Calls Tryz.prog 189 #[cW W,.pointer (some ⟨g,off,none⟩),.func (.func 190) #[] #[.pointer (some ⟨bx,0,none⟩)]] w (WrP B W (l++listB dirB L) w):=by
 have hge:=h.ge;refine eachD_w h (h0.lt hg) (h0.far hg hge) ((h0.cell hg).trans hc) (fun _=>rfl) (h0.els hE) hn dirB 190 #[] #[.pointer (some ⟨bx,0,none⟩)] cf_fields1 (fun x=>#[x,.pointer (some ⟨bx,0,none⟩)]) (fun _=>rfl) ?_ hl
 intro i x b o n c w' l' hv hx hW' hu' hl';obtain⟨b',o',c',e,hb',hq⟩:=hE.get (fun _=>rfl) hx
 rw[hv]at e;injection e with e1 e2 e3
 injection e1 with e1
 injection e1 with e1 e4 _
 subst e1 e4
 exact dirty_w (h0.wr hge hu') hW' (hB.wr (by decide) hne hu') hne hb' x (fun j u hj=>by
  have hj':j<2:=(qei.1 hj).1;rw[hq j hj',hj]) (hgd x (qmg hx)).1 (hgd x (qmg hx)).2 hl'
theorem dees_w{B W bx:Nat}{l:Bs}{w0 w:World}(h0:Old B w0 w)(h:WAt B w W l)(hB:Blk w bx 214 #[.pointer (some ⟨W,0,none⟩),.pointer none])(hne:bx≠W){g off:Nat}(hg:g<w0.heap.size){v:Value}(hc:w0.cell? ⟨g,off,none⟩=some v){L:List DeedV}(hE:Els 2 DeedV.cells w0 v L)(ho:∀q∈L,Els 1 intC w0 (slV q.mem) q.p.2)(hgd:∀d∈L,Num63 d.p.1∧d.p.2.length≤300∧∀n∈d.p.2,Num63 n)(hn:L.length≤300)(hl:l.length+(listB (fun d:DeedV=>deeB d.p) L).length≤85000):
 Calls Tryz.prog 191 #[cW W,.pointer (some ⟨g,off,none⟩),.func (.func 192) #[] #[.pointer (some ⟨bx,0,none⟩)]] w (WrP B W (l++listB (fun d:DeedV=>deeB d.p) L) w):=by
 have hge:=h.ge;refine eachE_w h (h0.lt hg) (h0.far hg hge) ((h0.cell hg).trans hc) (fun _=>rfl) (h0.els hE) hn (fun d:DeedV=>deeB d.p) 192 #[] #[.pointer (some ⟨bx,0,none⟩)] cf_fields2 (fun x=>#[x,.pointer (some ⟨bx,0,none⟩)]) (fun _=>rfl) ?_ hl
 intro i x b o n c w' l' hv hx hW' hu' hl';obtain⟨b',o',c',e,hb',hq⟩:=hE.get (fun _=>rfl) hx
 rw[hv]at e;injection e with e1 e2 e3
 injection e1 with e1
 injection e1 with e1 e4 _
 subst e1 e4;have hm:=qmg hx
 exact deed_w (h0.wr hge hu') hW' (hB.wr (by decide) hne hu') hne hb' x (fun j u hj=>by
  have hj':j<2:=(qei.1 hj).1;rw[hq j hj',hj]) (ho x hm) (hgd x hm).1 (hgd x hm).2.1 (hgd x hm).2.2 hl'
theorem fields1_w{B W:Nat}{l:Bs}{w0 w:World}(h0:Old B w0 w)(h:WAt B w W l){X:Nat}(x:RecP)(s:Sls)(hk:x.kind=1)(hbx:Blk w0 X 39 (x.rv s).cells.toArray)(hE:RecE w0 x s)(hgd:x.good)(hl:l.length+x.fieldsB.length≤85000):
 Calls Tryz.prog 128 #[cW W,.pointer (some ⟨X,0,none⟩)] w (WrP B W (l++x.fieldsB) w):=by
 have hU0:=(Upd.refl Nowhere w).alloc (.cells #[.pointer (some ⟨W,0,none⟩),.pointer none] 214);have hB:=Blk.new w 214 #[.pointer (some ⟨W,0,none⟩),.pointer none];have hW1:=h.up hU0;have hO1:=h0.up hU0;have hge:=h.ge;have hne:w.heap.size≠W:=by have:=h.lt;omega
 obtain⟨rs,hre,hrp,hro⟩:=hE.row;obtain⟨ds,hde,hdp,hdo⟩:=hE.dee;have hX:=hbx.lt;have hgd':=hgd;obtain⟨gk,gtx,gprev,gnext,gcoord,gkey,god,gnd,gml,gmb,gll,glb,grl,grb,gdl,gdb,gel,geb,gpl,gpb,_⟩:=hgd';obtain⟨kind,tx,prev,next,key,oh,od,nh,nd,coord,mem,loc,row,dir,dee,pas⟩:=x;simp only at hk hrp hdp gk gtx gprev gnext gcoord gkey god gnd gml gmb gll glb grl grb gdl gdb gel geb gpl gpb;subst hk;have hfb:RecP.fieldsB ⟨1,tx,prev,next,key,oh,od,nh,nd,coord,mem,loc,row,dir,dee,pas⟩=(([tx,prev]:List Int).flatMap numZ++(textB key++(valB oh od++valB nh nd))):=by simp[RecP.fieldsB]
 rw[hfb]at hl;have hll:=hl
 have hcs:∀(i o:Nat),([1,2]:List Nat)[i]? =some o→∃n,([tx,prev]:List Int)[i]? =some n∧w0.cell? ⟨X,o,none⟩=some (.int .i64 n)∧Num63 n:=fun i o ho=>by
  match i,ho with
  | 0,ho=>simp only[qZ,Option.some.injEq]at ho;subst ho;exact⟨_,rfl,(hbx.cell 1),gtx⟩
  | 1,ho=>simp only[qZ,qS,Option.some.injEq]at ho;subst ho;exact⟨_,rfl,(hbx.cell 2),gprev⟩
  | n+2,ho=>simp at ho
 have c1:=hbx.cell 1;have c4:=hbx.cell 4;have c10:=hbx.cell 10;have c11:=hbx.cell 11;have c12:=hbx.cell 12;have c13:=hbx.cell 13;have c14:=hbx.cell 14;have c15:=hbx.cell 15;simp only[RecP.rv,RecV.cells,qA,qZ,qS]at c1 c4 c10 c11 c12 c13 c14 c15;have cK:=(hO1.cell hX (off:=0)).trans (hbx.cell 0);simp only[RecP.rv,RecV.cells,qA,qZ]at cK;have HK:=qh (coder_keep (B:=B) hne);have HU0:=qh hU0;have HB:=qh hB;have HO1:=qh hO1;have HW1:=qh hW1;have HGE:=qh hge;have HX0:=qh hX;have HBX:=qh hbx;have HLL:=qh hll;have HFB:=qh hfb;have HE:=qh hE;have HCS:=qh hcs;have C1:=qh c1;have C4:=qh c4;have C10:=qh c10;have C11:=qh c11;have C12:=qh c12;have C13:=qh c13;have C14:=qh c14;have C15:=qh c15;have GTX:=qh gtx;have GKEY:=qh gkey;have GOD:=qh god;have GND:=qh gnd;have GML:=qh gml;have GMB:=qh gmb;have GLL:=qh gll;have GLB:=qh glb;have GDL:=qh gdl;have GDB:=qh gdb;have GPL:=qh gpl;have GPB:=qh gpb;clear h0 h hbx hE hgd hl hll hfb hU0 hB hW1 hO1 hge hX hcs hre hro hrp hde hdo hdp gk gtx gprev gnext gcoord gkey god gnd gml gmb gll glb grl grb gdl gdb gel geb gpl gpb c1 c4 c10 c11 c12 c13 c14 c15;unfold cW at*;go_enter Tryz.func128,Tryz.ntmps128
 go_wp2_with fail
 generalize w.alloc (.cells #[.pointer (some ⟨W,0,none⟩),.pointer none] 214)=w1 at*;generalize w.heap.size=bx at*;have hW1:=HW1.out;have hU1:Upd (WrF B W w1) w1 w1:=Upd.refl _ _;have hB1:=HB.out.wr (by decide) hne hU1
 have hO1:=HO1.out.wr HGE.out hU1;have b0:=hB1.cell 0;have b1:=hB1.cell 1;simp only[qA,qZ,qS]at b0 b1;have hOd:=hO1.up (Upd.refl Nowhere _).drew;have hWd:=hW1.up (Upd.refl Nowhere _).drew;have hBd:=hB1.drew;have hcal:=nums_old hOd hWd HX0.out (os:=[1,2]) (ns:=[tx,prev]) rfl (by simp) HCS.out _ rfl (by have:=HLL.out;(try simp only[qla]at this ⊢);omega)
 have HC1:=qh hcal;have HB1:=qh hB1;have HX1:=qh hU1;clear hW1 hU1 hB1 hO1 hcal hOd hWd hBd;unfold cW at HC1;go_wp2_with fail
 go_cut [33] (fun _ wz=>WAt B wz W (l++([tx,prev]:List Int).flatMap numZ)∧Upd (WrF B W w1) w1 wz)
 case first=>
  go_region_held3 (fun w'=>w'.cell? ⟨bx,0,none⟩=some (.pointer (some ⟨W,0,none⟩))∧w'.cell? ⟨bx,1,none⟩=some (.pointer none)) (first | exact⟨b0,b1⟩ | exact k2 | go_keep)
   (first
     | (go_at_call 182
        refine HC1.out.mono ?_;rintro e w2 ⟨rfl,hW,hU⟩;have k2:=HK.out _ _ (HB1.out.drew.alloc _) hU;have HWn:=qh hW;have HUn:=qh (Upd.wr (((Upd.refl Nowhere _).drew.alloc _).any) hU);clear hW hU))
  all_goals
   go_wp2_with fail
   go_meet;exact⟨HWn.out,HX1.out.wr HUn.out⟩
 case rest=>
  obtain⟨hW2,hU2⟩:=hcut;have hB2:=HB.out.wr (by decide) hne hU2
  have hO2:=HO1.out.wr HGE.out hU2;have b0:=hB2.cell 0;have b1:=hB2.cell 1;simp only[qA,qZ,qS]at b0 b1;have hOd:=hO2.up (Upd.refl Nowhere _).drew;have hWd:=hW2.up (Upd.refl Nowhere _).drew;have hBd:=hB2.drew;have hcal:=ctext_w hWd (g:=X) (off:=4) key (hOd.lt HX0.out) (hOd.far HX0.out HGE.out) ((hOd.cell HX0.out).trans C4.out) GKEY.out (by have:=HLL.out;(try simp only[qla]at this ⊢);omega)
  have HC2:=qh hcal;have HB2:=qh hB2;have HX2:=qh hU2;clear hW2 hU2 hB2 hO2 hcal hOd hWd hBd;unfold cW at HC2;go_wp2_with fail
  go_cut [38] (fun _ wz=>WAt B wz W (l++([tx,prev]:List Int).flatMap numZ++textB key)∧Upd (WrF B W w1) w1 wz)
  case first=>
   go_region_held3 (fun w'=>w'.cell? ⟨bx,0,none⟩=some (.pointer (some ⟨W,0,none⟩))∧w'.cell? ⟨bx,1,none⟩=some (.pointer none)) (first | exact⟨b0,b1⟩ | exact k2 | go_keep)
    (first
      | (go_at_call 183
         refine HC2.out.mono ?_;rintro e w2 ⟨rfl,hW,hU⟩;have k2:=HK.out _ _ (HB2.out.drew) hU;have HWn:=qh hW;have HUn:=qh (Upd.wr ((Upd.refl Nowhere _).drew.any) hU);clear hW hU))
   all_goals
    go_wp2_with fail
    go_meet;exact⟨HWn.out,HX2.out.wr HUn.out⟩
  case rest=>
   obtain⟨hW3,hU3⟩:=hcut;have hB3:=HB.out.wr (by decide) hne hU3
   have hO3:=HO1.out.wr HGE.out hU3;have b0:=hB3.cell 0;have b1:=hB3.cell 1;simp only[qA,qZ,qS]at b0 b1;have hOd:=hO3.up (Upd.refl Nowhere _).drew;have hWd:=hW3.up (Upd.refl Nowhere _).drew;have hBd:=hB3.drew;have hcal:=cval_w hWd (g:=X) (off:=5) (HBX.out.upd hOd.upd (fun e=>by have:=HX0.out;have:=hOd.le;omega)) (by decide) (fun e=>by have:=HX0.out;have:=hOd.le;have:=HGE.out;omega) oh od rfl rfl GOD.out (by have:=HLL.out;(try simp only[qla]at this ⊢);omega)
   have HC3:=qh hcal;have HB3:=qh hB3;have HX3:=qh hU3;clear hW3 hU3 hB3 hO3 hcal hOd hWd hBd;unfold cW at HC3;go_wp2_with fail
   go_cut [43] (fun _ wz=>WAt B wz W (l++([tx,prev]:List Int).flatMap numZ++textB key++valB oh od)∧Upd (WrF B W w1) w1 wz)
   case first=>
    go_region_held3 (fun w'=>w'.cell? ⟨bx,0,none⟩=some (.pointer (some ⟨W,0,none⟩))∧w'.cell? ⟨bx,1,none⟩=some (.pointer none)) (first | exact⟨b0,b1⟩ | exact k2 | go_keep)
     (first
       | (go_at_call 184
          refine HC3.out.mono ?_;rintro e w2 ⟨rfl,hW,hU⟩;have k2:=HK.out _ _ (HB3.out.drew) hU;have HWn:=qh hW;have HUn:=qh (Upd.wr ((Upd.refl Nowhere _).drew.any) hU);clear hW hU))
    all_goals
     go_wp2_with fail
     go_meet;exact⟨HWn.out,HX3.out.wr HUn.out⟩
   case rest=>
    obtain⟨hW4,hU4⟩:=hcut;have hB4:=HB.out.wr (by decide) hne hU4
    have hO4:=HO1.out.wr HGE.out hU4;have b0:=hB4.cell 0;have b1:=hB4.cell 1;simp only[qA,qZ,qS]at b0 b1;have hOd:=hO4.up (Upd.refl Nowhere _).drew;have hWd:=hW4.up (Upd.refl Nowhere _).drew;have hBd:=hB4.drew;have hcal:=cval_w hWd (g:=X) (off:=7) (HBX.out.upd hOd.upd (fun e=>by have:=HX0.out;have:=hOd.le;omega)) (by decide) (fun e=>by have:=HX0.out;have:=hOd.le;have:=HGE.out;omega) nh nd rfl rfl GND.out (by have:=HLL.out;(try simp only[qla]at this ⊢);omega)
    have HC4:=qh hcal;have HB4:=qh hB4;have HX4:=qh hU4;clear hW4 hU4 hB4 hO4 hcal hOd hWd hBd;unfold cW at HC4;go_wp2_with fail
    go_region_held3 (fun w'=>w'.cell? ⟨bx,0,none⟩=some (.pointer (some ⟨W,0,none⟩))∧w'.cell? ⟨bx,1,none⟩=some (.pointer none)) (first | exact⟨b0,b1⟩ | exact k2 | go_keep)
     (first
       | (go_at_call 184
          refine HC4.out.mono ?_;rintro e w2 ⟨rfl,hW,hU⟩;have k2:=HK.out _ _ (HB4.out.drew) hU;have HWn:=qh hW;have HUn:=qh (Upd.wr ((Upd.refl Nowhere _).drew.any) hU);clear hW hU))
    all_goals
     go_wp2_with fail
     go_end0;refine⟨rfl,?_,HU0.out.any.wr (HX4.out.wr HUn.out)⟩;have:=HWn.out;simp only[qaa]at this;rw[HFB.out];exact this
theorem fields2_w{B W:Nat}{l:Bs}{w0 w:World}(h0:Old B w0 w)(h:WAt B w W l){X:Nat}(x:RecP)(s:Sls)(hk:x.kind=2)(hbx:Blk w0 X 39 (x.rv s).cells.toArray)(hE:RecE w0 x s)(hgd:x.good)(hl:l.length+x.fieldsB.length≤85000):
 Calls Tryz.prog 128 #[cW W,.pointer (some ⟨X,0,none⟩)] w (WrP B W (l++x.fieldsB) w):=by
 have hU0:=(Upd.refl Nowhere w).alloc (.cells #[.pointer (some ⟨W,0,none⟩),.pointer none] 214);have hB:=Blk.new w 214 #[.pointer (some ⟨W,0,none⟩),.pointer none];have hW1:=h.up hU0;have hO1:=h0.up hU0;have hge:=h.ge;have hne:w.heap.size≠W:=by have:=h.lt;omega
 obtain⟨rs,hre,hrp,hro⟩:=hE.row;obtain⟨ds,hde,hdp,hdo⟩:=hE.dee;have hX:=hbx.lt;have hgd':=hgd;obtain⟨gk,gtx,gprev,gnext,gcoord,gkey,god,gnd,gml,gmb,gll,glb,grl,grb,gdl,gdb,gel,geb,gpl,gpb,_⟩:=hgd';obtain⟨kind,tx,prev,next,key,oh,od,nh,nd,coord,mem,loc,row,dir,dee,pas⟩:=x;simp only at hk hrp hdp gk gtx gprev gnext gcoord gkey god gnd gml gmb gll glb grl grb gdl gdb gel geb gpl gpb;subst hk;have hfb:RecP.fieldsB ⟨2,tx,prev,next,key,oh,od,nh,nd,coord,mem,loc,row,dir,dee,pas⟩=(([tx,prev,next]:List Int).flatMap numZ++(textB key++valB nh nd)):=by simp[RecP.fieldsB]
 rw[hfb]at hl;have hll:=hl
 have hcs:∀(i o:Nat),([1,2,3]:List Nat)[i]? =some o→∃n,([tx,prev,next]:List Int)[i]? =some n∧w0.cell? ⟨X,o,none⟩=some (.int .i64 n)∧Num63 n:=fun i o ho=>by
  match i,ho with
  | 0,ho=>simp only[qZ,Option.some.injEq]at ho;subst ho;exact⟨_,rfl,(hbx.cell 1),gtx⟩
  | 1,ho=>simp only[qZ,qS,Option.some.injEq]at ho;subst ho;exact⟨_,rfl,(hbx.cell 2),gprev⟩
  | 2,ho=>simp only[qZ,qS,Option.some.injEq]at ho;subst ho;exact⟨_,rfl,(hbx.cell 3),gnext⟩
  | n+3,ho=>simp at ho
 have c1:=hbx.cell 1;have c4:=hbx.cell 4;have c10:=hbx.cell 10;have c11:=hbx.cell 11;have c12:=hbx.cell 12;have c13:=hbx.cell 13;have c14:=hbx.cell 14;have c15:=hbx.cell 15;simp only[RecP.rv,RecV.cells,qA,qZ,qS]at c1 c4 c10 c11 c12 c13 c14 c15;have cK:=(hO1.cell hX (off:=0)).trans (hbx.cell 0);simp only[RecP.rv,RecV.cells,qA,qZ]at cK;have HK:=qh (coder_keep (B:=B) hne);have HU0:=qh hU0;have HB:=qh hB;have HO1:=qh hO1;have HW1:=qh hW1;have HGE:=qh hge;have HX0:=qh hX;have HBX:=qh hbx;have HLL:=qh hll;have HFB:=qh hfb;have HE:=qh hE;have HCS:=qh hcs;have C1:=qh c1;have C4:=qh c4;have C10:=qh c10;have C11:=qh c11;have C12:=qh c12;have C13:=qh c13;have C14:=qh c14;have C15:=qh c15;have GTX:=qh gtx;have GKEY:=qh gkey;have GOD:=qh god;have GND:=qh gnd;have GML:=qh gml;have GMB:=qh gmb;have GLL:=qh gll;have GLB:=qh glb;have GDL:=qh gdl;have GDB:=qh gdb;have GPL:=qh gpl;have GPB:=qh gpb;clear h0 h hbx hE hgd hl hll hfb hU0 hB hW1 hO1 hge hX hcs hre hro hrp hde hdo hdp gk gtx gprev gnext gcoord gkey god gnd gml gmb gll glb grl grb gdl gdb gel geb gpl gpb c1 c4 c10 c11 c12 c13 c14 c15;unfold cW at*;go_enter Tryz.func128,Tryz.ntmps128
 go_wp2_with fail
 generalize w.alloc (.cells #[.pointer (some ⟨W,0,none⟩),.pointer none] 214)=w1 at*;generalize w.heap.size=bx at*;have hW1:=HW1.out;have hU1:Upd (WrF B W w1) w1 w1:=Upd.refl _ _;have hB1:=HB.out.wr (by decide) hne hU1
 have hO1:=HO1.out.wr HGE.out hU1;have b0:=hB1.cell 0;have b1:=hB1.cell 1;simp only[qA,qZ,qS]at b0 b1;have hOd:=hO1.up (Upd.refl Nowhere _).drew;have hWd:=hW1.up (Upd.refl Nowhere _).drew;have hBd:=hB1.drew;have hcal:=nums_old hOd hWd HX0.out (os:=[1,2,3]) (ns:=[tx,prev,next]) rfl (by simp) HCS.out _ rfl (by have:=HLL.out;(try simp only[qla]at this ⊢);omega)
 have HC1:=qh hcal;have HB1:=qh hB1;have HX1:=qh hU1;clear hW1 hU1 hB1 hO1 hcal hOd hWd hBd;unfold cW at HC1;go_wp2_with fail
 go_cut [60] (fun _ wz=>WAt B wz W (l++([tx,prev,next]:List Int).flatMap numZ)∧Upd (WrF B W w1) w1 wz)
 case first=>
  go_region_held3 (fun w'=>w'.cell? ⟨bx,0,none⟩=some (.pointer (some ⟨W,0,none⟩))∧w'.cell? ⟨bx,1,none⟩=some (.pointer none)) (first | exact⟨b0,b1⟩ | exact k2 | go_keep)
   (first
     | (go_at_call 182
        refine HC1.out.mono ?_;rintro e w2 ⟨rfl,hW,hU⟩;have k2:=HK.out _ _ (HB1.out.drew.alloc _) hU;have HWn:=qh hW;have HUn:=qh (Upd.wr (((Upd.refl Nowhere _).drew.alloc _).any) hU);clear hW hU))
  all_goals
   go_wp2_with fail
   go_meet;exact⟨HWn.out,HX1.out.wr HUn.out⟩
 case rest=>
  obtain⟨hW2,hU2⟩:=hcut;have hB2:=HB.out.wr (by decide) hne hU2
  have hO2:=HO1.out.wr HGE.out hU2;have b0:=hB2.cell 0;have b1:=hB2.cell 1;simp only[qA,qZ,qS]at b0 b1;have hOd:=hO2.up (Upd.refl Nowhere _).drew;have hWd:=hW2.up (Upd.refl Nowhere _).drew;have hBd:=hB2.drew;have hcal:=ctext_w hWd (g:=X) (off:=4) key (hOd.lt HX0.out) (hOd.far HX0.out HGE.out) ((hOd.cell HX0.out).trans C4.out) GKEY.out (by have:=HLL.out;(try simp only[qla]at this ⊢);omega)
  have HC2:=qh hcal;have HB2:=qh hB2;have HX2:=qh hU2;clear hW2 hU2 hB2 hO2 hcal hOd hWd hBd;unfold cW at HC2;go_wp2_with fail
  go_cut [65] (fun _ wz=>WAt B wz W (l++([tx,prev,next]:List Int).flatMap numZ++textB key)∧Upd (WrF B W w1) w1 wz)
  case first=>
   go_region_held3 (fun w'=>w'.cell? ⟨bx,0,none⟩=some (.pointer (some ⟨W,0,none⟩))∧w'.cell? ⟨bx,1,none⟩=some (.pointer none)) (first | exact⟨b0,b1⟩ | exact k2 | go_keep)
    (first
      | (go_at_call 183
         refine HC2.out.mono ?_;rintro e w2 ⟨rfl,hW,hU⟩;have k2:=HK.out _ _ (HB2.out.drew) hU;have HWn:=qh hW;have HUn:=qh (Upd.wr ((Upd.refl Nowhere _).drew.any) hU);clear hW hU))
   all_goals
    go_wp2_with fail
    go_meet;exact⟨HWn.out,HX2.out.wr HUn.out⟩
  case rest=>
   obtain⟨hW3,hU3⟩:=hcut;have hB3:=HB.out.wr (by decide) hne hU3
   have hO3:=HO1.out.wr HGE.out hU3;have b0:=hB3.cell 0;have b1:=hB3.cell 1;simp only[qA,qZ,qS]at b0 b1;have hOd:=hO3.up (Upd.refl Nowhere _).drew;have hWd:=hW3.up (Upd.refl Nowhere _).drew;have hBd:=hB3.drew;have hcal:=cval_w hWd (g:=X) (off:=7) (HBX.out.upd hOd.upd (fun e=>by have:=HX0.out;have:=hOd.le;omega)) (by decide) (fun e=>by have:=HX0.out;have:=hOd.le;have:=HGE.out;omega) nh nd rfl rfl GND.out (by have:=HLL.out;(try simp only[qla]at this ⊢);omega)
   have HC3:=qh hcal;have HB3:=qh hB3;have HX3:=qh hU3;clear hW3 hU3 hB3 hO3 hcal hOd hWd hBd;unfold cW at HC3;go_wp2_with fail
   go_region_held3 (fun w'=>w'.cell? ⟨bx,0,none⟩=some (.pointer (some ⟨W,0,none⟩))∧w'.cell? ⟨bx,1,none⟩=some (.pointer none)) (first | exact⟨b0,b1⟩ | exact k2 | go_keep)
    (first
      | (go_at_call 184
         refine HC3.out.mono ?_;rintro e w2 ⟨rfl,hW,hU⟩;have k2:=HK.out _ _ (HB3.out.drew) hU;have HWn:=qh hW;have HUn:=qh (Upd.wr ((Upd.refl Nowhere _).drew.any) hU);clear hW hU))
   all_goals
    go_wp2_with fail
    go_end0;refine⟨rfl,?_,HU0.out.any.wr (HX3.out.wr HUn.out)⟩;have:=HWn.out;simp only[qaa]at this;rw[HFB.out];exact this
theorem fields3_w{B W:Nat}{l:Bs}{w0 w:World}(h0:Old B w0 w)(h:WAt B w W l){X:Nat}(x:RecP)(s:Sls)(hk:x.kind=3)(hbx:Blk w0 X 39 (x.rv s).cells.toArray)(hE:RecE w0 x s)(hgd:x.good)(hl:l.length+x.fieldsB.length≤85000):
 Calls Tryz.prog 128 #[cW W,.pointer (some ⟨X,0,none⟩)] w (WrP B W (l++x.fieldsB) w):=by
 have hU0:=(Upd.refl Nowhere w).alloc (.cells #[.pointer (some ⟨W,0,none⟩),.pointer none] 214);have hB:=Blk.new w 214 #[.pointer (some ⟨W,0,none⟩),.pointer none];have hW1:=h.up hU0;have hO1:=h0.up hU0;have hge:=h.ge;have hne:w.heap.size≠W:=by have:=h.lt;omega
 obtain⟨rs,hre,hrp,hro⟩:=hE.row;obtain⟨ds,hde,hdp,hdo⟩:=hE.dee;have hX:=hbx.lt;have hgd':=hgd;obtain⟨gk,gtx,gprev,gnext,gcoord,gkey,god,gnd,gml,gmb,gll,glb,grl,grb,gdl,gdb,gel,geb,gpl,gpb,_⟩:=hgd';obtain⟨kind,tx,prev,next,key,oh,od,nh,nd,coord,mem,loc,row,dir,dee,pas⟩:=x;simp only at hk hrp hdp gk gtx gprev gnext gcoord gkey god gnd gml gmb gll glb grl grb gdl gdb gel geb gpl gpb;subst hk;have hfb:RecP.fieldsB ⟨3,tx,prev,next,key,oh,od,nh,nd,coord,mem,loc,row,dir,dee,pas⟩=(([tx,prev,coord]:List Int).flatMap numZ++(listB numZ mem++listB lockB loc)):=by simp[RecP.fieldsB]
 rw[hfb]at hl;have hll:=hl
 have hcs:∀(i o:Nat),([1,2,9]:List Nat)[i]? =some o→∃n,([tx,prev,coord]:List Int)[i]? =some n∧w0.cell? ⟨X,o,none⟩=some (.int .i64 n)∧Num63 n:=fun i o ho=>by
  match i,ho with
  | 0,ho=>simp only[qZ,Option.some.injEq]at ho;subst ho;exact⟨_,rfl,(hbx.cell 1),gtx⟩
  | 1,ho=>simp only[qZ,qS,Option.some.injEq]at ho;subst ho;exact⟨_,rfl,(hbx.cell 2),gprev⟩
  | 2,ho=>simp only[qZ,qS,Option.some.injEq]at ho;subst ho;exact⟨_,rfl,(hbx.cell 9),gcoord⟩
  | n+3,ho=>simp at ho
 have c1:=hbx.cell 1;have c4:=hbx.cell 4;have c10:=hbx.cell 10;have c11:=hbx.cell 11;have c12:=hbx.cell 12;have c13:=hbx.cell 13;have c14:=hbx.cell 14;have c15:=hbx.cell 15;simp only[RecP.rv,RecV.cells,qA,qZ,qS]at c1 c4 c10 c11 c12 c13 c14 c15;have cK:=(hO1.cell hX (off:=0)).trans (hbx.cell 0);simp only[RecP.rv,RecV.cells,qA,qZ]at cK;have HK:=qh (coder_keep (B:=B) hne);have HU0:=qh hU0;have HB:=qh hB;have HO1:=qh hO1;have HW1:=qh hW1;have HGE:=qh hge;have HX0:=qh hX;have HBX:=qh hbx;have HLL:=qh hll;have HFB:=qh hfb;have HE:=qh hE;have HCS:=qh hcs;have C1:=qh c1;have C4:=qh c4;have C10:=qh c10;have C11:=qh c11;have C12:=qh c12;have C13:=qh c13;have C14:=qh c14;have C15:=qh c15;have GTX:=qh gtx;have GKEY:=qh gkey;have GOD:=qh god;have GND:=qh gnd;have GML:=qh gml;have GMB:=qh gmb;have GLL:=qh gll;have GLB:=qh glb;have GDL:=qh gdl;have GDB:=qh gdb;have GPL:=qh gpl;have GPB:=qh gpb;clear h0 h hbx hE hgd hl hll hfb hU0 hB hW1 hO1 hge hX hcs hre hro hrp hde hdo hdp gk gtx gprev gnext gcoord gkey god gnd gml gmb gll glb grl grb gdl gdb gel geb gpl gpb c1 c4 c10 c11 c12 c13 c14 c15;unfold cW at*;go_enter Tryz.func128,Tryz.ntmps128
 go_wp2_with fail
 generalize w.alloc (.cells #[.pointer (some ⟨W,0,none⟩),.pointer none] 214)=w1 at*;generalize w.heap.size=bx at*;have hW1:=HW1.out;have hU1:Upd (WrF B W w1) w1 w1:=Upd.refl _ _;have hB1:=HB.out.wr (by decide) hne hU1
 have hO1:=HO1.out.wr HGE.out hU1;have b0:=hB1.cell 0;have b1:=hB1.cell 1;simp only[qA,qZ,qS]at b0 b1;have hOd:=hO1.up (Upd.refl Nowhere _).drew;have hWd:=hW1.up (Upd.refl Nowhere _).drew;have hBd:=hB1.drew;have hcal:=nums_old hOd hWd HX0.out (os:=[1,2,9]) (ns:=[tx,prev,coord]) rfl (by simp) HCS.out _ rfl (by have:=HLL.out;(try simp only[qla]at this ⊢);omega)
 have HC1:=qh hcal;have HB1:=qh hB1;have HX1:=qh hU1;clear hW1 hU1 hB1 hO1 hcal hOd hWd hBd;unfold cW at HC1;go_wp2_with fail
 go_cut [82] (fun _ wz=>WAt B wz W (l++([tx,prev,coord]:List Int).flatMap numZ)∧Upd (WrF B W w1) w1 wz)
 case first=>
  go_region_held3 (fun w'=>w'.cell? ⟨bx,0,none⟩=some (.pointer (some ⟨W,0,none⟩))∧w'.cell? ⟨bx,1,none⟩=some (.pointer none)) (first | exact⟨b0,b1⟩ | exact k2 | go_keep)
   (first
     | (go_at_call 182
        refine HC1.out.mono ?_;rintro e w2 ⟨rfl,hW,hU⟩;have k2:=HK.out _ _ (HB1.out.drew.alloc _) hU;have HWn:=qh hW;have HUn:=qh (Upd.wr (((Upd.refl Nowhere _).drew.alloc _).any) hU);clear hW hU))
  all_goals
   go_wp2_with fail
   go_meet;exact⟨HWn.out,HX1.out.wr HUn.out⟩
 case rest=>
  obtain⟨hW2,hU2⟩:=hcut;have hB2:=HB.out.wr (by decide) hne hU2
  have hO2:=HO1.out.wr HGE.out hU2;have b0:=hB2.cell 0;have b1:=hB2.cell 1;simp only[qA,qZ,qS]at b0 b1;have hOd:=hO2.up (Upd.refl Nowhere _).drew;have hWd:=hW2.up (Upd.refl Nowhere _).drew;have hBd:=hB2.drew;have hcal:=ints_w hOd hWd (g:=X) (off:=10) (L:=mem) HX0.out C10.out HE.out.mem GML.out GMB.out (by have:=HLL.out;(try simp only[qla]at this ⊢);omega)
  have HC2:=qh hcal;have HB2:=qh hB2;have HX2:=qh hU2;clear hW2 hU2 hB2 hO2 hcal hOd hWd hBd;unfold cW at HC2;go_wp2_with fail
  go_cut [87] (fun _ wz=>WAt B wz W (l++([tx,prev,coord]:List Int).flatMap numZ++listB numZ mem)∧Upd (WrF B W w1) w1 wz)
  case first=>
   go_region_held3 (fun w'=>w'.cell? ⟨bx,0,none⟩=some (.pointer (some ⟨W,0,none⟩))∧w'.cell? ⟨bx,1,none⟩=some (.pointer none)) (first | exact⟨b0,b1⟩ | exact k2 | go_keep)
    (first
      | (go_at_call 185
         refine HC2.out.mono ?_;rintro e w2 ⟨rfl,hW,hU⟩;have k2:=HK.out _ _ (HB2.out.drew) hU;have HWn:=qh hW;have HUn:=qh (Upd.wr ((Upd.refl Nowhere _).drew.any) hU);clear hW hU))
   all_goals
    go_wp2_with fail
    go_meet;exact⟨HWn.out,HX2.out.wr HUn.out⟩
  case rest=>
   obtain⟨hW3,hU3⟩:=hcut;have hB3:=HB.out.wr (by decide) hne hU3
   have hO3:=HO1.out.wr HGE.out hU3;have b0:=hB3.cell 0;have b1:=hB3.cell 1;simp only[qA,qZ,qS]at b0 b1;have hOd:=hO3.up (Upd.refl Nowhere _).drew;have hWd:=hW3.up (Upd.refl Nowhere _).drew;have hBd:=hB3.drew;have hcal:=locks_w hOd hWd (g:=X) (off:=11) (L:=loc) HX0.out C11.out HE.out.loc GLL.out GLB.out (by have:=HLL.out;(try simp only[qla]at this ⊢);omega)
   have HC3:=qh hcal;have HB3:=qh hB3;have HX3:=qh hU3;clear hW3 hU3 hB3 hO3 hcal hOd hWd hBd;unfold cW at HC3;go_wp2_with fail
   go_region_held3 (fun w'=>w'.cell? ⟨bx,0,none⟩=some (.pointer (some ⟨W,0,none⟩))∧w'.cell? ⟨bx,1,none⟩=some (.pointer none)) (first | exact⟨b0,b1⟩ | exact k2 | go_keep)
    (first
      | (go_at_call 186
         refine HC3.out.mono ?_;rintro e w2 ⟨rfl,hW,hU⟩;have k2:=HK.out _ _ (HB3.out.drew) hU;have HWn:=qh hW;have HUn:=qh (Upd.wr ((Upd.refl Nowhere _).drew.any) hU);clear hW hU))
   all_goals
    go_wp2_with fail
    go_end0;refine⟨rfl,?_,HU0.out.any.wr (HX3.out.wr HUn.out)⟩;have:=HWn.out;simp only[qaa]at this;rw[HFB.out];exact this
theorem fields4_w{B W:Nat}{l:Bs}{w0 w:World}(h0:Old B w0 w)(h:WAt B w W l){X:Nat}(x:RecP)(s:Sls)(hk:x.kind=4)(hbx:Blk w0 X 39 (x.rv s).cells.toArray)(hE:RecE w0 x s)(hgd:x.good)(hl:l.length+x.fieldsB.length≤85000):
 Calls Tryz.prog 128 #[cW W,.pointer (some ⟨X,0,none⟩)] w (WrP B W (l++x.fieldsB) w):=by
 have hU0:=(Upd.refl Nowhere w).alloc (.cells #[.pointer (some ⟨W,0,none⟩),.pointer none] 214);have hB:=Blk.new w 214 #[.pointer (some ⟨W,0,none⟩),.pointer none];have hW1:=h.up hU0;have hO1:=h0.up hU0;have hge:=h.ge;have hne:w.heap.size≠W:=by have:=h.lt;omega
 obtain⟨rs,hre,hrp,hro⟩:=hE.row;obtain⟨ds,hde,hdp,hdo⟩:=hE.dee;have hX:=hbx.lt;have hgd':=hgd;obtain⟨gk,gtx,gprev,gnext,gcoord,gkey,god,gnd,gml,gmb,gll,glb,grl,grb,gdl,gdb,gel,geb,gpl,gpb,_⟩:=hgd';obtain⟨kind,tx,prev,next,key,oh,od,nh,nd,coord,mem,loc,row,dir,dee,pas⟩:=x;simp only at hk hrp hdp gk gtx gprev gnext gcoord gkey god gnd gml gmb gll glb grl grb gdl gdb gel geb gpl gpb;subst hk;have hfb:RecP.fieldsB ⟨4,tx,prev,next,key,oh,od,nh,nd,coord,mem,loc,row,dir,dee,pas⟩=([tx,prev]:List Int).flatMap numZ:=by simp[RecP.fieldsB]
 rw[hfb]at hl;have hll:=hl
 have hcs:∀(i o:Nat),([1,2]:List Nat)[i]? =some o→∃n,([tx,prev]:List Int)[i]? =some n∧w0.cell? ⟨X,o,none⟩=some (.int .i64 n)∧Num63 n:=fun i o ho=>by
  match i,ho with
  | 0,ho=>simp only[qZ,Option.some.injEq]at ho;subst ho;exact⟨_,rfl,(hbx.cell 1),gtx⟩
  | 1,ho=>simp only[qZ,qS,Option.some.injEq]at ho;subst ho;exact⟨_,rfl,(hbx.cell 2),gprev⟩
  | n+2,ho=>simp at ho
 have c1:=hbx.cell 1;have c4:=hbx.cell 4;have c10:=hbx.cell 10;have c11:=hbx.cell 11;have c12:=hbx.cell 12;have c13:=hbx.cell 13;have c14:=hbx.cell 14;have c15:=hbx.cell 15;simp only[RecP.rv,RecV.cells,qA,qZ,qS]at c1 c4 c10 c11 c12 c13 c14 c15;have cK:=(hO1.cell hX (off:=0)).trans (hbx.cell 0);simp only[RecP.rv,RecV.cells,qA,qZ]at cK;have HK:=qh (coder_keep (B:=B) hne);have HU0:=qh hU0;have HB:=qh hB;have HO1:=qh hO1;have HW1:=qh hW1;have HGE:=qh hge;have HX0:=qh hX;have HBX:=qh hbx;have HLL:=qh hll;have HFB:=qh hfb;have HE:=qh hE;have HCS:=qh hcs;have C1:=qh c1;have C4:=qh c4;have C10:=qh c10;have C11:=qh c11;have C12:=qh c12;have C13:=qh c13;have C14:=qh c14;have C15:=qh c15;have GTX:=qh gtx;have GKEY:=qh gkey;have GOD:=qh god;have GND:=qh gnd;have GML:=qh gml;have GMB:=qh gmb;have GLL:=qh gll;have GLB:=qh glb;have GDL:=qh gdl;have GDB:=qh gdb;have GPL:=qh gpl;have GPB:=qh gpb;clear h0 h hbx hE hgd hl hll hfb hU0 hB hW1 hO1 hge hX hcs hre hro hrp hde hdo hdp gk gtx gprev gnext gcoord gkey god gnd gml gmb gll glb grl grb gdl gdb gel geb gpl gpb c1 c4 c10 c11 c12 c13 c14 c15;unfold cW at*;go_enter Tryz.func128,Tryz.ntmps128
 go_wp2_with fail
 generalize w.alloc (.cells #[.pointer (some ⟨W,0,none⟩),.pointer none] 214)=w1 at*;generalize w.heap.size=bx at*;have hW1:=HW1.out;have hU1:Upd (WrF B W w1) w1 w1:=Upd.refl _ _;have hB1:=HB.out.wr (by decide) hne hU1
 have hO1:=HO1.out.wr HGE.out hU1;have b0:=hB1.cell 0;have b1:=hB1.cell 1;simp only[qA,qZ,qS]at b0 b1;have hOd:=hO1.up (Upd.refl Nowhere _).drew;have hWd:=hW1.up (Upd.refl Nowhere _).drew;have hBd:=hB1.drew;have hcal:=nums_old hOd hWd HX0.out (os:=[1,2]) (ns:=[tx,prev]) rfl (by simp) HCS.out _ rfl (by have:=HLL.out;(try simp only[qla]at this ⊢);omega)
 have HC1:=qh hcal;have HB1:=qh hB1;have HX1:=qh hU1;clear hW1 hU1 hB1 hO1 hcal hOd hWd hBd;unfold cW at HC1;go_wp2_with fail
 go_region_held3 (fun w'=>w'.cell? ⟨bx,0,none⟩=some (.pointer (some ⟨W,0,none⟩))∧w'.cell? ⟨bx,1,none⟩=some (.pointer none)) (first | exact⟨b0,b1⟩ | exact k2 | go_keep)
  (first
    | (go_at_call 182
       refine HC1.out.mono ?_;rintro e w2 ⟨rfl,hW,hU⟩;have k2:=HK.out _ _ (HB1.out.drew.alloc _) hU;have HWn:=qh hW;have HUn:=qh (Upd.wr (((Upd.refl Nowhere _).drew.alloc _).any) hU);clear hW hU))
 all_goals
  go_wp2_with fail
  go_end0;refine⟨rfl,?_,HU0.out.any.wr (HX1.out.wr HUn.out)⟩;have:=HWn.out;rw[HFB.out];exact this
theorem fields5_w{B W:Nat}{l:Bs}{w0 w:World}(h0:Old B w0 w)(h:WAt B w W l){X:Nat}(x:RecP)(s:Sls)(hk:x.kind=5)(hbx:Blk w0 X 39 (x.rv s).cells.toArray)(hE:RecE w0 x s)(hgd:x.good)(hl:l.length+x.fieldsB.length≤85000):
 Calls Tryz.prog 128 #[cW W,.pointer (some ⟨X,0,none⟩)] w (WrP B W (l++x.fieldsB) w):=by
 have hU0:=(Upd.refl Nowhere w).alloc (.cells #[.pointer (some ⟨W,0,none⟩),.pointer none] 214);have hB:=Blk.new w 214 #[.pointer (some ⟨W,0,none⟩),.pointer none];have hW1:=h.up hU0;have hO1:=h0.up hU0;have hge:=h.ge;have hne:w.heap.size≠W:=by have:=h.lt;omega
 obtain⟨rs,hre,hrp,hro⟩:=hE.row;obtain⟨ds,hde,hdp,hdo⟩:=hE.dee;have hX:=hbx.lt;have hgd':=hgd;obtain⟨gk,gtx,gprev,gnext,gcoord,gkey,god,gnd,gml,gmb,gll,glb,grl,grb,gdl,gdb,gel,geb,gpl,gpb,_⟩:=hgd';obtain⟨kind,tx,prev,next,key,oh,od,nh,nd,coord,mem,loc,row,dir,dee,pas⟩:=x;simp only at hk hrp hdp gk gtx gprev gnext gcoord gkey god gnd gml gmb gll glb grl grb gdl gdb gel geb gpl gpb;subst hk;have hfb:RecP.fieldsB ⟨5,tx,prev,next,key,oh,od,nh,nd,coord,mem,loc,row,dir,dee,pas⟩=([tx,prev]:List Int).flatMap numZ:=by simp[RecP.fieldsB]
 rw[hfb]at hl;have hll:=hl
 have hcs:∀(i o:Nat),([1,2]:List Nat)[i]? =some o→∃n,([tx,prev]:List Int)[i]? =some n∧w0.cell? ⟨X,o,none⟩=some (.int .i64 n)∧Num63 n:=fun i o ho=>by
  match i,ho with
  | 0,ho=>simp only[qZ,Option.some.injEq]at ho;subst ho;exact⟨_,rfl,(hbx.cell 1),gtx⟩
  | 1,ho=>simp only[qZ,qS,Option.some.injEq]at ho;subst ho;exact⟨_,rfl,(hbx.cell 2),gprev⟩
  | n+2,ho=>simp at ho
 have c1:=hbx.cell 1;have c4:=hbx.cell 4;have c10:=hbx.cell 10;have c11:=hbx.cell 11;have c12:=hbx.cell 12;have c13:=hbx.cell 13;have c14:=hbx.cell 14;have c15:=hbx.cell 15;simp only[RecP.rv,RecV.cells,qA,qZ,qS]at c1 c4 c10 c11 c12 c13 c14 c15;have cK:=(hO1.cell hX (off:=0)).trans (hbx.cell 0);simp only[RecP.rv,RecV.cells,qA,qZ]at cK;have HK:=qh (coder_keep (B:=B) hne);have HU0:=qh hU0;have HB:=qh hB;have HO1:=qh hO1;have HW1:=qh hW1;have HGE:=qh hge;have HX0:=qh hX;have HBX:=qh hbx;have HLL:=qh hll;have HFB:=qh hfb;have HE:=qh hE;have HCS:=qh hcs;have C1:=qh c1;have C4:=qh c4;have C10:=qh c10;have C11:=qh c11;have C12:=qh c12;have C13:=qh c13;have C14:=qh c14;have C15:=qh c15;have GTX:=qh gtx;have GKEY:=qh gkey;have GOD:=qh god;have GND:=qh gnd;have GML:=qh gml;have GMB:=qh gmb;have GLL:=qh gll;have GLB:=qh glb;have GDL:=qh gdl;have GDB:=qh gdb;have GPL:=qh gpl;have GPB:=qh gpb;clear h0 h hbx hE hgd hl hll hfb hU0 hB hW1 hO1 hge hX hcs hre hro hrp hde hdo hdp gk gtx gprev gnext gcoord gkey god gnd gml gmb gll glb grl grb gdl gdb gel geb gpl gpb c1 c4 c10 c11 c12 c13 c14 c15;unfold cW at*;go_enter Tryz.func128,Tryz.ntmps128
 go_wp2_with fail
 generalize w.alloc (.cells #[.pointer (some ⟨W,0,none⟩),.pointer none] 214)=w1 at*;generalize w.heap.size=bx at*;have hW1:=HW1.out;have hU1:Upd (WrF B W w1) w1 w1:=Upd.refl _ _;have hB1:=HB.out.wr (by decide) hne hU1
 have hO1:=HO1.out.wr HGE.out hU1;have b0:=hB1.cell 0;have b1:=hB1.cell 1;simp only[qA,qZ,qS]at b0 b1;have hOd:=hO1.up (Upd.refl Nowhere _).drew;have hWd:=hW1.up (Upd.refl Nowhere _).drew;have hBd:=hB1.drew;have hcal:=nums_old hOd hWd HX0.out (os:=[1,2]) (ns:=[tx,prev]) rfl (by simp) HCS.out _ rfl (by have:=HLL.out;(try simp only[qla]at this ⊢);omega)
 have HC1:=qh hcal;have HB1:=qh hB1;have HX1:=qh hU1;clear hW1 hU1 hB1 hO1 hcal hOd hWd hBd;unfold cW at HC1;go_wp2_with fail
 go_region_held3 (fun w'=>w'.cell? ⟨bx,0,none⟩=some (.pointer (some ⟨W,0,none⟩))∧w'.cell? ⟨bx,1,none⟩=some (.pointer none)) (first | exact⟨b0,b1⟩ | exact k2 | go_keep)
  (first
    | (go_at_call 182
       refine HC1.out.mono ?_;rintro e w2 ⟨rfl,hW,hU⟩;have k2:=HK.out _ _ (HB1.out.drew.alloc _) hU;have HWn:=qh hW;have HUn:=qh (Upd.wr (((Upd.refl Nowhere _).drew.alloc _).any) hU);clear hW hU))
 all_goals
  go_wp2_with fail
  go_end0;refine⟨rfl,?_,HU0.out.any.wr (HX1.out.wr HUn.out)⟩;have:=HWn.out;rw[HFB.out];exact this
theorem fields6_w{B W:Nat}{l:Bs}{w0 w:World}(h0:Old B w0 w)(h:WAt B w W l){X:Nat}(x:RecP)(s:Sls)(hk:x.kind=6)(hbx:Blk w0 X 39 (x.rv s).cells.toArray)(hE:RecE w0 x s)(hgd:x.good)(hl:l.length+x.fieldsB.length≤85000):
 Calls Tryz.prog 128 #[cW W,.pointer (some ⟨X,0,none⟩)] w (WrP B W (l++x.fieldsB) w):=by
 have hU0:=(Upd.refl Nowhere w).alloc (.cells #[.pointer (some ⟨W,0,none⟩),.pointer none] 214);have hB:=Blk.new w 214 #[.pointer (some ⟨W,0,none⟩),.pointer none];have hW1:=h.up hU0;have hO1:=h0.up hU0;have hge:=h.ge;have hne:w.heap.size≠W:=by have:=h.lt;omega
 obtain⟨rs,hre,hrp,hro⟩:=hE.row;obtain⟨ds,hde,hdp,hdo⟩:=hE.dee;have hX:=hbx.lt;have hgd':=hgd;obtain⟨gk,gtx,gprev,gnext,gcoord,gkey,god,gnd,gml,gmb,gll,glb,grl,grb,gdl,gdb,gel,geb,gpl,gpb,_⟩:=hgd';obtain⟨kind,tx,prev,next,key,oh,od,nh,nd,coord,mem,loc,row,dir,dee,pas⟩:=x;simp only at hk hrp hdp gk gtx gprev gnext gcoord gkey god gnd gml gmb gll glb grl grb gdl gdb gel geb gpl gpb;subst hk;have hfb:RecP.fieldsB ⟨6,tx,prev,next,key,oh,od,nh,nd,coord,mem,loc,row,dir,dee,pas⟩=([tx,prev]:List Int).flatMap numZ:=by simp[RecP.fieldsB]
 rw[hfb]at hl;have hll:=hl
 have hcs:∀(i o:Nat),([1,2]:List Nat)[i]? =some o→∃n,([tx,prev]:List Int)[i]? =some n∧w0.cell? ⟨X,o,none⟩=some (.int .i64 n)∧Num63 n:=fun i o ho=>by
  match i,ho with
  | 0,ho=>simp only[qZ,Option.some.injEq]at ho;subst ho;exact⟨_,rfl,(hbx.cell 1),gtx⟩
  | 1,ho=>simp only[qZ,qS,Option.some.injEq]at ho;subst ho;exact⟨_,rfl,(hbx.cell 2),gprev⟩
  | n+2,ho=>simp at ho
 have c1:=hbx.cell 1;have c4:=hbx.cell 4;have c10:=hbx.cell 10;have c11:=hbx.cell 11;have c12:=hbx.cell 12;have c13:=hbx.cell 13;have c14:=hbx.cell 14;have c15:=hbx.cell 15;simp only[RecP.rv,RecV.cells,qA,qZ,qS]at c1 c4 c10 c11 c12 c13 c14 c15;have cK:=(hO1.cell hX (off:=0)).trans (hbx.cell 0);simp only[RecP.rv,RecV.cells,qA,qZ]at cK;have HK:=qh (coder_keep (B:=B) hne);have HU0:=qh hU0;have HB:=qh hB;have HO1:=qh hO1;have HW1:=qh hW1;have HGE:=qh hge;have HX0:=qh hX;have HBX:=qh hbx;have HLL:=qh hll;have HFB:=qh hfb;have HE:=qh hE;have HCS:=qh hcs;have C1:=qh c1;have C4:=qh c4;have C10:=qh c10;have C11:=qh c11;have C12:=qh c12;have C13:=qh c13;have C14:=qh c14;have C15:=qh c15;have GTX:=qh gtx;have GKEY:=qh gkey;have GOD:=qh god;have GND:=qh gnd;have GML:=qh gml;have GMB:=qh gmb;have GLL:=qh gll;have GLB:=qh glb;have GDL:=qh gdl;have GDB:=qh gdb;have GPL:=qh gpl;have GPB:=qh gpb;clear h0 h hbx hE hgd hl hll hfb hU0 hB hW1 hO1 hge hX hcs hre hro hrp hde hdo hdp gk gtx gprev gnext gcoord gkey god gnd gml gmb gll glb grl grb gdl gdb gel geb gpl gpb c1 c4 c10 c11 c12 c13 c14 c15;unfold cW at*;go_enter Tryz.func128,Tryz.ntmps128
 go_wp2_with fail
 generalize w.alloc (.cells #[.pointer (some ⟨W,0,none⟩),.pointer none] 214)=w1 at*;generalize w.heap.size=bx at*;have hW1:=HW1.out;have hU1:Upd (WrF B W w1) w1 w1:=Upd.refl _ _;have hB1:=HB.out.wr (by decide) hne hU1
 have hO1:=HO1.out.wr HGE.out hU1;have b0:=hB1.cell 0;have b1:=hB1.cell 1;simp only[qA,qZ,qS]at b0 b1;have hOd:=hO1.up (Upd.refl Nowhere _).drew;have hWd:=hW1.up (Upd.refl Nowhere _).drew;have hBd:=hB1.drew;have hcal:=nums_old hOd hWd HX0.out (os:=[1,2]) (ns:=[tx,prev]) rfl (by simp) HCS.out _ rfl (by have:=HLL.out;(try simp only[qla]at this ⊢);omega)
 have HC1:=qh hcal;have HB1:=qh hB1;have HX1:=qh hU1;clear hW1 hU1 hB1 hO1 hcal hOd hWd hBd;unfold cW at HC1;go_wp2_with fail
 go_region_held3 (fun w'=>w'.cell? ⟨bx,0,none⟩=some (.pointer (some ⟨W,0,none⟩))∧w'.cell? ⟨bx,1,none⟩=some (.pointer none)) (first | exact⟨b0,b1⟩ | exact k2 | go_keep)
  (first
    | (go_at_call 182
       refine HC1.out.mono ?_;rintro e w2 ⟨rfl,hW,hU⟩;have k2:=HK.out _ _ (HB1.out.drew.alloc _) hU;have HWn:=qh hW;have HUn:=qh (Upd.wr (((Upd.refl Nowhere _).drew.alloc _).any) hU);clear hW hU))
 all_goals
  go_wp2_with fail
  go_end0;refine⟨rfl,?_,HU0.out.any.wr (HX1.out.wr HUn.out)⟩;have:=HWn.out;rw[HFB.out];exact this
theorem fields7_w{B W:Nat}{l:Bs}{w0 w:World}(h0:Old B w0 w)(h:WAt B w W l){X:Nat}(x:RecP)(s:Sls)(hk:x.kind=7)(hbx:Blk w0 X 39 (x.rv s).cells.toArray)(hE:RecE w0 x s)(hgd:x.good)(hl:l.length+x.fieldsB.length≤85000):
 Calls Tryz.prog 128 #[cW W,.pointer (some ⟨X,0,none⟩)] w (WrP B W (l++x.fieldsB) w):=by
 have hU0:=(Upd.refl Nowhere w).alloc (.cells #[.pointer (some ⟨W,0,none⟩),.pointer none] 214);have hB:=Blk.new w 214 #[.pointer (some ⟨W,0,none⟩),.pointer none];have hW1:=h.up hU0;have hO1:=h0.up hU0;have hge:=h.ge;have hne:w.heap.size≠W:=by have:=h.lt;omega
 obtain⟨rs,hre,hrp,hro⟩:=hE.row;obtain⟨ds,hde,hdp,hdo⟩:=hE.dee;have hX:=hbx.lt;have hgd':=hgd;obtain⟨gk,gtx,gprev,gnext,gcoord,gkey,god,gnd,gml,gmb,gll,glb,grl,grb,gdl,gdb,gel,geb,gpl,gpb,_⟩:=hgd';obtain⟨kind,tx,prev,next,key,oh,od,nh,nd,coord,mem,loc,row,dir,dee,pas⟩:=x;simp only at hk hrp hdp gk gtx gprev gnext gcoord gkey god gnd gml gmb gll glb grl grb gdl gdb gel geb gpl gpb;subst hk;have hfb:RecP.fieldsB ⟨7,tx,prev,next,key,oh,od,nh,nd,coord,mem,loc,row,dir,dee,pas⟩=[]:=by simp[RecP.fieldsB]
 rw[hfb]at hl;have hll:=hl;have hcs:True:=trivial;have c1:=hbx.cell 1;have c4:=hbx.cell 4;have c10:=hbx.cell 10;have c11:=hbx.cell 11;have c12:=hbx.cell 12;have c13:=hbx.cell 13;have c14:=hbx.cell 14;have c15:=hbx.cell 15;simp only[RecP.rv,RecV.cells,qA,qZ,qS]at c1 c4 c10 c11 c12 c13 c14 c15;have cK:=(hO1.cell hX (off:=0)).trans (hbx.cell 0);simp only[RecP.rv,RecV.cells,qA,qZ]at cK;have HK:=qh (coder_keep (B:=B) hne);have HU0:=qh hU0;have HB:=qh hB;have HO1:=qh hO1;have HW1:=qh hW1;have HGE:=qh hge;have HX0:=qh hX;have HBX:=qh hbx;have HLL:=qh hll;have HFB:=qh hfb;have HE:=qh hE;have HCS:=qh hcs;have C1:=qh c1;have C4:=qh c4;have C10:=qh c10;have C11:=qh c11;have C12:=qh c12;have C13:=qh c13;have C14:=qh c14;have C15:=qh c15;have GTX:=qh gtx;have GKEY:=qh gkey;have GOD:=qh god;have GND:=qh gnd;have GML:=qh gml;have GMB:=qh gmb;have GLL:=qh gll;have GLB:=qh glb;have GDL:=qh gdl;have GDB:=qh gdb;have GPL:=qh gpl;have GPB:=qh gpb;clear h0 h hbx hE hgd hl hll hfb hU0 hB hW1 hO1 hge hX hcs hre hro hrp hde hdo hdp gk gtx gprev gnext gcoord gkey god gnd gml gmb gll glb grl grb gdl gdb gel geb gpl gpb c1 c4 c10 c11 c12 c13 c14 c15;unfold cW at*;go_enter Tryz.func128,Tryz.ntmps128
 go_wp2_with fail
 go_end0;refine⟨rfl,?_,HU0.out.any⟩;have:=HW1.out;rw[HFB.out,List.append_nil];exact this
theorem fields8_w{B W:Nat}{l:Bs}{w0 w:World}(h0:Old B w0 w)(h:WAt B w W l){X:Nat}(x:RecP)(s:Sls)(hk:x.kind=8)(hbx:Blk w0 X 39 (x.rv s).cells.toArray)(hE:RecE w0 x s)(hgd:x.good)(hl:l.length+x.fieldsB.length≤85000):
 Calls Tryz.prog 128 #[cW W,.pointer (some ⟨X,0,none⟩)] w (WrP B W (l++x.fieldsB) w):=by
 have hU0:=(Upd.refl Nowhere w).alloc (.cells #[.pointer (some ⟨W,0,none⟩),.pointer none] 214);have hB:=Blk.new w 214 #[.pointer (some ⟨W,0,none⟩),.pointer none];have hW1:=h.up hU0;have hO1:=h0.up hU0;have hge:=h.ge;have hne:w.heap.size≠W:=by have:=h.lt;omega
 obtain⟨rs,hre,hrp,hro⟩:=hE.row;obtain⟨ds,hde,hdp,hdo⟩:=hE.dee;have hX:=hbx.lt;have hgd':=hgd;obtain⟨gk,gtx,gprev,gnext,gcoord,gkey,god,gnd,gml,gmb,gll,glb,grl,grb,gdl,gdb,gel,geb,gpl,gpb,_⟩:=hgd';obtain⟨kind,tx,prev,next,key,oh,od,nh,nd,coord,mem,loc,row,dir,dee,pas⟩:=x;simp only at hk hrp hdp gk gtx gprev gnext gcoord gkey god gnd gml gmb gll glb grl grb gdl gdb gel geb gpl gpb;subst hk;have hfb:RecP.fieldsB ⟨8,tx,prev,next,key,oh,od,nh,nd,coord,mem,loc,row,dir,dee,pas⟩=(listB (fun r:RowW=>rowB r.p) rs++(listB dirB dir++(listB (fun d:DeedV=>deeB d.p) ds++listB numZ pas))):=by simp[RecP.fieldsB,listB_map,hrp,hdp]
 rw[hfb]at hl;have hll:=hl;have hcs:True:=trivial;have c1:=hbx.cell 1;have c4:=hbx.cell 4;have c10:=hbx.cell 10;have c11:=hbx.cell 11;have c12:=hbx.cell 12;have c13:=hbx.cell 13;have c14:=hbx.cell 14;have c15:=hbx.cell 15;simp only[RecP.rv,RecV.cells,qA,qZ,qS]at c1 c4 c10 c11 c12 c13 c14 c15;have cK:=(hO1.cell hX (off:=0)).trans (hbx.cell 0);simp only[RecP.rv,RecV.cells,qA,qZ]at cK;have hrg:∀q∈rs,q.p.good:=fun q hq=>grb _ (by rw[←hrp];exact List.mem_map_of_mem hq)
 have hdg:∀d∈ds,Num63 d.p.1∧d.p.2.length≤300∧∀n∈d.p.2,Num63 n:=fun d hd=>geb _ (by rw[←hdp];exact List.mem_map_of_mem hd)
 have hrn:rs.length≤300:=by rw[←hrp,qlm]at grl;exact grl
 have hdn:ds.length≤300:=by rw[←hdp,qlm]at gel;exact gel
 have HK:=qh (coder_keep (B:=B) hne);have HU0:=qh hU0;have HB:=qh hB;have HO1:=qh hO1;have HW1:=qh hW1;have HGE:=qh hge;have HX0:=qh hX;have HBX:=qh hbx;have HLL:=qh hll;have HFB:=qh hfb;have HE:=qh hE;have HCS:=qh hcs;have C1:=qh c1;have C4:=qh c4;have C10:=qh c10;have C11:=qh c11;have C12:=qh c12;have C13:=qh c13;have C14:=qh c14;have C15:=qh c15;have GTX:=qh gtx;have GKEY:=qh gkey;have GOD:=qh god;have GND:=qh gnd;have GML:=qh gml;have GMB:=qh gmb;have GLL:=qh gll;have GLB:=qh glb;have GDL:=qh gdl;have GDB:=qh gdb;have GPL:=qh gpl;have GPB:=qh gpb;have HRE:=qh hre;have HRO:=qh hro;have HRG:=qh hrg;have HRN:=qh hrn;have HDE:=qh hde;have HDO:=qh hdo;have HDG:=qh hdg;have HDN:=qh hdn;clear hrg hdg hrn hdn;clear h0 h hbx hE hgd hl hll hfb hU0 hB hW1 hO1 hge hX hcs hre hro hrp hde hdo hdp gk gtx gprev gnext gcoord gkey god gnd gml gmb gll glb grl grb gdl gdb gel geb gpl gpb c1 c4 c10 c11 c12 c13 c14 c15;unfold cW at*;go_enter Tryz.func128,Tryz.ntmps128
 go_wp2_with fail
 generalize w.alloc (.cells #[.pointer (some ⟨W,0,none⟩),.pointer none] 214)=w1 at*;generalize w.heap.size=bx at*;have hW1:=HW1.out;have hU1:Upd (WrF B W w1) w1 w1:=Upd.refl _ _;have hB1:=HB.out.wr (by decide) hne hU1
 have hO1:=HO1.out.wr HGE.out hU1;have b0:=hB1.cell 0;have b1:=hB1.cell 1;simp only[qA,qZ,qS]at b0 b1;have hOd:=hO1.up (Upd.refl Nowhere _).drew;have hWd:=hW1.up (Upd.refl Nowhere _).drew;have hBd:=hB1.drew;have hcal:=rows_w hOd hWd (g:=X) (off:=12) (rs:=rs) HX0.out C12.out HRE.out HRO.out HRG.out HRN.out (by have:=HLL.out;(try simp only[qla]at this ⊢);omega)
 have HC1:=qh hcal;have HB1:=qh hB1;have HX1:=qh hU1;clear hW1 hU1 hB1 hO1 hcal hOd hWd hBd;unfold cW at HC1;go_wp2_with fail
 go_cut [108] (fun _ wz=>WAt B wz W (l++listB (fun r:RowW=>rowB r.p) rs)∧Upd (WrF B W w1) w1 wz)
 case first=>
  go_region_held3 (fun w'=>w'.cell? ⟨bx,0,none⟩=some (.pointer (some ⟨W,0,none⟩))∧w'.cell? ⟨bx,1,none⟩=some (.pointer none)) (first | exact⟨b0,b1⟩ | exact k2 | go_keep)
   (first
     | (go_at_call 187
        refine HC1.out.mono ?_;rintro e w2 ⟨rfl,hW,hU⟩;have k2:=HK.out _ _ (HB1.out.drew) hU;have HWn:=qh hW;have HUn:=qh (Upd.wr ((Upd.refl Nowhere _).drew.any) hU);clear hW hU))
  all_goals
   go_wp2_with fail
   go_meet;exact⟨HWn.out,HX1.out.wr HUn.out⟩
 case rest=>
  obtain⟨hW2,hU2⟩:=hcut;have hB2:=HB.out.wr (by decide) hne hU2
  have hO2:=HO1.out.wr HGE.out hU2;have b0:=hB2.cell 0;have b1:=hB2.cell 1;simp only[qA,qZ,qS]at b0 b1;have hOd:=hO2.up (Upd.refl Nowhere _).drew;have hWd:=hW2.up (Upd.refl Nowhere _).drew;have hBd:=hB2.drew;have hcal:=dirs_w hOd hWd hBd hne (g:=X) (off:=13) (L:=dir) HX0.out C13.out HE.out.dir GDB.out GDL.out (by have:=HLL.out;(try simp only[qla]at this ⊢);omega)
  have HC2:=qh hcal;have HB2:=qh hB2;have HX2:=qh hU2;clear hW2 hU2 hB2 hO2 hcal hOd hWd hBd;unfold cW at HC2;go_wp2_with fail
  go_cut [114] (fun _ wz=>WAt B wz W (l++listB (fun r:RowW=>rowB r.p) rs++listB dirB dir)∧Upd (WrF B W w1) w1 wz)
  case first=>
   go_region_held3 (fun w'=>w'.cell? ⟨bx,0,none⟩=some (.pointer (some ⟨W,0,none⟩))∧w'.cell? ⟨bx,1,none⟩=some (.pointer none)) (first | exact⟨b0,b1⟩ | exact k2 | go_keep)
    (first
      | (go_at_call 189
         refine HC2.out.mono ?_;rintro e w2 ⟨rfl,hW,hU⟩;have k2:=HK.out _ _ (HB2.out.drew) hU;have HWn:=qh hW;have HUn:=qh (Upd.wr ((Upd.refl Nowhere _).drew.any) hU);clear hW hU))
   all_goals
    go_wp2_with fail
    go_meet;exact⟨HWn.out,HX2.out.wr HUn.out⟩
  case rest=>
   obtain⟨hW3,hU3⟩:=hcut;have hB3:=HB.out.wr (by decide) hne hU3
   have hO3:=HO1.out.wr HGE.out hU3;have b0:=hB3.cell 0;have b1:=hB3.cell 1;simp only[qA,qZ,qS]at b0 b1;have hOd:=hO3.up (Upd.refl Nowhere _).drew;have hWd:=hW3.up (Upd.refl Nowhere _).drew;have hBd:=hB3.drew;have hcal:=dees_w hOd hWd hBd hne (g:=X) (off:=14) (L:=ds) HX0.out C14.out HDE.out HDO.out HDG.out HDN.out (by have:=HLL.out;(try simp only[qla]at this ⊢);omega)
   have HC3:=qh hcal;have HB3:=qh hB3;have HX3:=qh hU3;clear hW3 hU3 hB3 hO3 hcal hOd hWd hBd;unfold cW at HC3;go_wp2_with fail
   go_cut [120] (fun _ wz=>WAt B wz W (l++listB (fun r:RowW=>rowB r.p) rs++listB dirB dir++listB (fun d:DeedV=>deeB d.p) ds)∧Upd (WrF B W w1) w1 wz)
   case first=>
    go_region_held3 (fun w'=>w'.cell? ⟨bx,0,none⟩=some (.pointer (some ⟨W,0,none⟩))∧w'.cell? ⟨bx,1,none⟩=some (.pointer none)) (first | exact⟨b0,b1⟩ | exact k2 | go_keep)
     (first
       | (go_at_call 191
          refine HC3.out.mono ?_;rintro e w2 ⟨rfl,hW,hU⟩;have k2:=HK.out _ _ (HB3.out.drew) hU;have HWn:=qh hW;have HUn:=qh (Upd.wr ((Upd.refl Nowhere _).drew.any) hU);clear hW hU))
    all_goals
     go_wp2_with fail
     go_meet;exact⟨HWn.out,HX3.out.wr HUn.out⟩
   case rest=>
    obtain⟨hW4,hU4⟩:=hcut;have hB4:=HB.out.wr (by decide) hne hU4
    have hO4:=HO1.out.wr HGE.out hU4;have b0:=hB4.cell 0;have b1:=hB4.cell 1;simp only[qA,qZ,qS]at b0 b1;have hOd:=hO4.up (Upd.refl Nowhere _).drew;have hWd:=hW4.up (Upd.refl Nowhere _).drew;have hBd:=hB4.drew;have hcal:=ints_w hOd hWd (g:=X) (off:=15) (L:=pas) HX0.out C15.out HE.out.pas GPL.out GPB.out (by have:=HLL.out;(try simp only[qla]at this ⊢);omega)
    have HC4:=qh hcal;have HB4:=qh hB4;have HX4:=qh hU4;clear hW4 hU4 hB4 hO4 hcal hOd hWd hBd;unfold cW at HC4;go_wp2_with fail
    go_region_held3 (fun w'=>w'.cell? ⟨bx,0,none⟩=some (.pointer (some ⟨W,0,none⟩))∧w'.cell? ⟨bx,1,none⟩=some (.pointer none)) (first | exact⟨b0,b1⟩ | exact k2 | go_keep)
     (first
       | (go_at_call 185
          refine HC4.out.mono ?_;rintro e w2 ⟨rfl,hW,hU⟩;have k2:=HK.out _ _ (HB4.out.drew) hU;have HWn:=qh hW;have HUn:=qh (Upd.wr ((Upd.refl Nowhere _).drew.any) hU);clear hW hU))
    all_goals
     go_wp2_with fail
     go_end0;refine⟨rfl,?_,HU0.out.any.wr (HX4.out.wr HUn.out)⟩;have:=HWn.out;simp only[qaa]at this;rw[HFB.out];exact this
theorem fields9_w{B W:Nat}{l:Bs}{w0 w:World}(h0:Old B w0 w)(h:WAt B w W l){X:Nat}(x:RecP)(s:Sls)(hk:x.kind=9)(hbx:Blk w0 X 39 (x.rv s).cells.toArray)(hE:RecE w0 x s)(hgd:x.good)(hl:l.length+x.fieldsB.length≤85000):
 Calls Tryz.prog 128 #[cW W,.pointer (some ⟨X,0,none⟩)] w (WrP B W (l++x.fieldsB) w):=by
 have hU0:=(Upd.refl Nowhere w).alloc (.cells #[.pointer (some ⟨W,0,none⟩),.pointer none] 214);have hB:=Blk.new w 214 #[.pointer (some ⟨W,0,none⟩),.pointer none];have hW1:=h.up hU0;have hO1:=h0.up hU0;have hge:=h.ge;have hne:w.heap.size≠W:=by have:=h.lt;omega
 obtain⟨rs,hre,hrp,hro⟩:=hE.row;obtain⟨ds,hde,hdp,hdo⟩:=hE.dee;have hX:=hbx.lt;have hgd':=hgd;obtain⟨gk,gtx,gprev,gnext,gcoord,gkey,god,gnd,gml,gmb,gll,glb,grl,grb,gdl,gdb,gel,geb,gpl,gpb,_⟩:=hgd';obtain⟨kind,tx,prev,next,key,oh,od,nh,nd,coord,mem,loc,row,dir,dee,pas⟩:=x;simp only at hk hrp hdp gk gtx gprev gnext gcoord gkey god gnd gml gmb gll glb grl grb gdl gdb gel geb gpl gpb;subst hk;have hfb:RecP.fieldsB ⟨9,tx,prev,next,key,oh,od,nh,nd,coord,mem,loc,row,dir,dee,pas⟩=(numZ tx++listB numZ mem):=by simp[RecP.fieldsB]
 rw[hfb]at hl;have hll:=hl;have hcs:True:=trivial;have c1:=hbx.cell 1;have c4:=hbx.cell 4;have c10:=hbx.cell 10;have c11:=hbx.cell 11;have c12:=hbx.cell 12;have c13:=hbx.cell 13;have c14:=hbx.cell 14;have c15:=hbx.cell 15;simp only[RecP.rv,RecV.cells,qA,qZ,qS]at c1 c4 c10 c11 c12 c13 c14 c15;have cK:=(hO1.cell hX (off:=0)).trans (hbx.cell 0);simp only[RecP.rv,RecV.cells,qA,qZ]at cK;have HK:=qh (coder_keep (B:=B) hne);have HU0:=qh hU0;have HB:=qh hB;have HO1:=qh hO1;have HW1:=qh hW1;have HGE:=qh hge;have HX0:=qh hX;have HBX:=qh hbx;have HLL:=qh hll;have HFB:=qh hfb;have HE:=qh hE;have HCS:=qh hcs;have C1:=qh c1;have C4:=qh c4;have C10:=qh c10;have C11:=qh c11;have C12:=qh c12;have C13:=qh c13;have C14:=qh c14;have C15:=qh c15;have GTX:=qh gtx;have GKEY:=qh gkey;have GOD:=qh god;have GND:=qh gnd;have GML:=qh gml;have GMB:=qh gmb;have GLL:=qh gll;have GLB:=qh glb;have GDL:=qh gdl;have GDB:=qh gdb;have GPL:=qh gpl;have GPB:=qh gpb;clear h0 h hbx hE hgd hl hll hfb hU0 hB hW1 hO1 hge hX hcs hre hro hrp hde hdo hdp gk gtx gprev gnext gcoord gkey god gnd gml gmb gll glb grl grb gdl gdb gel geb gpl gpb c1 c4 c10 c11 c12 c13 c14 c15;unfold cW at*;go_enter Tryz.func128,Tryz.ntmps128
 go_wp2_with fail
 generalize w.alloc (.cells #[.pointer (some ⟨W,0,none⟩),.pointer none] 214)=w1 at*;generalize w.heap.size=bx at*;have hW1:=HW1.out;have hU1:Upd (WrF B W w1) w1 w1:=Upd.refl _ _;have hB1:=HB.out.wr (by decide) hne hU1
 have hO1:=HO1.out.wr HGE.out hU1;have b0:=hB1.cell 0;have b1:=hB1.cell 1;simp only[qA,qZ,qS]at b0 b1;have hOd:=hO1.up (Upd.refl Nowhere _).drew;have hWd:=hW1.up (Upd.refl Nowhere _).drew;have hBd:=hB1.drew;have hcal:=cnum_old hOd hWd (g:=X) (off:=1) HX0.out C1.out GTX.out (by have:=HLL.out;(try simp only[qla]at this ⊢);omega)
 have HC1:=qh hcal;have HB1:=qh hB1;have HX1:=qh hU1;clear hW1 hU1 hB1 hO1 hcal hOd hWd hBd;unfold cW at HC1;go_wp2_with fail
 go_cut [130] (fun _ wz=>WAt B wz W (l++numZ tx)∧Upd (WrF B W w1) w1 wz)
 case first=>
  go_region_held3 (fun w'=>w'.cell? ⟨bx,0,none⟩=some (.pointer (some ⟨W,0,none⟩))∧w'.cell? ⟨bx,1,none⟩=some (.pointer none)) (first | exact⟨b0,b1⟩ | exact k2 | go_keep)
   (first
     | (go_at_call 193
        refine HC1.out.mono ?_;rintro e w2 ⟨rfl,hW,hU⟩;have k2:=HK.out _ _ (HB1.out.drew) hU;have HWn:=qh hW;have HUn:=qh (Upd.wr ((Upd.refl Nowhere _).drew.any) hU);clear hW hU))
  all_goals
   go_wp2_with fail
   go_meet;exact⟨HWn.out,HX1.out.wr HUn.out⟩
 case rest=>
  obtain⟨hW2,hU2⟩:=hcut;have hB2:=HB.out.wr (by decide) hne hU2
  have hO2:=HO1.out.wr HGE.out hU2;have b0:=hB2.cell 0;have b1:=hB2.cell 1;simp only[qA,qZ,qS]at b0 b1;have hOd:=hO2.up (Upd.refl Nowhere _).drew;have hWd:=hW2.up (Upd.refl Nowhere _).drew;have hBd:=hB2.drew;have hcal:=ints_w hOd hWd (g:=X) (off:=10) (L:=mem) HX0.out C10.out HE.out.mem GML.out GMB.out (by have:=HLL.out;(try simp only[qla]at this ⊢);omega)
  have HC2:=qh hcal;have HB2:=qh hB2;have HX2:=qh hU2;clear hW2 hU2 hB2 hO2 hcal hOd hWd hBd;unfold cW at HC2;go_wp2_with fail
  go_region_held3 (fun w'=>w'.cell? ⟨bx,0,none⟩=some (.pointer (some ⟨W,0,none⟩))∧w'.cell? ⟨bx,1,none⟩=some (.pointer none)) (first | exact⟨b0,b1⟩ | exact k2 | go_keep)
   (first
     | (go_at_call 185
        refine HC2.out.mono ?_;rintro e w2 ⟨rfl,hW,hU⟩;have k2:=HK.out _ _ (HB2.out.drew) hU;have HWn:=qh hW;have HUn:=qh (Upd.wr ((Upd.refl Nowhere _).drew.any) hU);clear hW hU))
  all_goals
   go_wp2_with fail
   go_end0;refine⟨rfl,?_,HU0.out.any.wr (HX2.out.wr HUn.out)⟩;have:=HWn.out;simp only[qaa]at this;rw[HFB.out];exact this
theorem fields10_w{B W:Nat}{l:Bs}{w0 w:World}(h0:Old B w0 w)(h:WAt B w W l){X:Nat}(x:RecP)(s:Sls)(hk:x.kind=10)(hbx:Blk w0 X 39 (x.rv s).cells.toArray)(hE:RecE w0 x s)(hgd:x.good)(hl:l.length+x.fieldsB.length≤85000):
 Calls Tryz.prog 128 #[cW W,.pointer (some ⟨X,0,none⟩)] w (WrP B W (l++x.fieldsB) w):=by
 have hU0:=(Upd.refl Nowhere w).alloc (.cells #[.pointer (some ⟨W,0,none⟩),.pointer none] 214);have hB:=Blk.new w 214 #[.pointer (some ⟨W,0,none⟩),.pointer none];have hW1:=h.up hU0;have hO1:=h0.up hU0;have hge:=h.ge;have hne:w.heap.size≠W:=by have:=h.lt;omega
 obtain⟨rs,hre,hrp,hro⟩:=hE.row;obtain⟨ds,hde,hdp,hdo⟩:=hE.dee;have hX:=hbx.lt;have hgd':=hgd;obtain⟨gk,gtx,gprev,gnext,gcoord,gkey,god,gnd,gml,gmb,gll,glb,grl,grb,gdl,gdb,gel,geb,gpl,gpb,_⟩:=hgd';obtain⟨kind,tx,prev,next,key,oh,od,nh,nd,coord,mem,loc,row,dir,dee,pas⟩:=x;simp only at hk hrp hdp gk gtx gprev gnext gcoord gkey god gnd gml gmb gll glb grl grb gdl gdb gel geb gpl gpb;subst hk;have hfb:RecP.fieldsB ⟨10,tx,prev,next,key,oh,od,nh,nd,coord,mem,loc,row,dir,dee,pas⟩=numZ tx:=by simp[RecP.fieldsB]
 rw[hfb]at hl;have hll:=hl;have hcs:True:=trivial;have c1:=hbx.cell 1;have c4:=hbx.cell 4;have c10:=hbx.cell 10;have c11:=hbx.cell 11;have c12:=hbx.cell 12;have c13:=hbx.cell 13;have c14:=hbx.cell 14;have c15:=hbx.cell 15;simp only[RecP.rv,RecV.cells,qA,qZ,qS]at c1 c4 c10 c11 c12 c13 c14 c15;have cK:=(hO1.cell hX (off:=0)).trans (hbx.cell 0);simp only[RecP.rv,RecV.cells,qA,qZ]at cK;have HK:=qh (coder_keep (B:=B) hne);have HU0:=qh hU0;have HB:=qh hB;have HO1:=qh hO1;have HW1:=qh hW1;have HGE:=qh hge;have HX0:=qh hX;have HBX:=qh hbx;have HLL:=qh hll;have HFB:=qh hfb;have HE:=qh hE;have HCS:=qh hcs;have C1:=qh c1;have C4:=qh c4;have C10:=qh c10;have C11:=qh c11;have C12:=qh c12;have C13:=qh c13;have C14:=qh c14;have C15:=qh c15;have GTX:=qh gtx;have GKEY:=qh gkey;have GOD:=qh god;have GND:=qh gnd;have GML:=qh gml;have GMB:=qh gmb;have GLL:=qh gll;have GLB:=qh glb;have GDL:=qh gdl;have GDB:=qh gdb;have GPL:=qh gpl;have GPB:=qh gpb;clear h0 h hbx hE hgd hl hll hfb hU0 hB hW1 hO1 hge hX hcs hre hro hrp hde hdo hdp gk gtx gprev gnext gcoord gkey god gnd gml gmb gll glb grl grb gdl gdb gel geb gpl gpb c1 c4 c10 c11 c12 c13 c14 c15;unfold cW at*;go_enter Tryz.func128,Tryz.ntmps128
 go_wp2_with fail
 generalize w.alloc (.cells #[.pointer (some ⟨W,0,none⟩),.pointer none] 214)=w1 at*;generalize w.heap.size=bx at*;have hW1:=HW1.out;have hU1:Upd (WrF B W w1) w1 w1:=Upd.refl _ _;have hB1:=HB.out.wr (by decide) hne hU1
 have hO1:=HO1.out.wr HGE.out hU1;have b0:=hB1.cell 0;have b1:=hB1.cell 1;simp only[qA,qZ,qS]at b0 b1;have hOd:=hO1.up (Upd.refl Nowhere _).drew;have hWd:=hW1.up (Upd.refl Nowhere _).drew;have hBd:=hB1.drew;have hcal:=cnum_old hOd hWd (g:=X) (off:=1) HX0.out C1.out GTX.out (by have:=HLL.out;(try simp only[qla]at this ⊢);omega)
 have HC1:=qh hcal;have HB1:=qh hB1;have HX1:=qh hU1;clear hW1 hU1 hB1 hO1 hcal hOd hWd hBd;unfold cW at HC1;go_wp2_with fail
 go_region_held3 (fun w'=>w'.cell? ⟨bx,0,none⟩=some (.pointer (some ⟨W,0,none⟩))∧w'.cell? ⟨bx,1,none⟩=some (.pointer none)) (first | exact⟨b0,b1⟩ | exact k2 | go_keep)
  (first
    | (go_at_call 193
       refine HC1.out.mono ?_;rintro e w2 ⟨rfl,hW,hU⟩;have k2:=HK.out _ _ (HB1.out.drew) hU;have HWn:=qh hW;have HUn:=qh (Upd.wr ((Upd.refl Nowhere _).drew.any) hU);clear hW hU))
 all_goals
  go_wp2_with fail
  go_end0;refine⟨rfl,?_,HU0.out.any.wr (HX1.out.wr HUn.out)⟩;have:=HWn.out;rw[HFB.out];exact this
theorem fields_w{B W:Nat}{l:Bs}{w0 w:World}(h0:Old B w0 w)(h:WAt B w W l){X:Nat}(x:RecP)(s:Sls)(hk:kindP x.kind=true)(hbx:Blk w0 X 39 (x.rv s).cells.toArray)(hE:RecE w0 x s)(hgd:x.good)(hl:l.length+x.fieldsB.length≤85000):
 Calls Tryz.prog 128 #[cW W,.pointer (some ⟨X,0,none⟩)] w (WrP B W (l++x.fieldsB) w):=by
 unfold kindP at hk;rw[Bool.and_eq_true,decide_eq_true_eq,decide_eq_true_eq]at hk
 rcases(by omega:x.kind=1∨x.kind=2∨x.kind=3∨x.kind=4∨x.kind=5∨x.kind=6∨x.kind=7∨x.kind=8∨x.kind=9∨x.kind=10) with e | e | e | e | e | e | e | e | e | e
 ·exact fields1_w h0 h x s e hbx hE hgd hl
 ·exact fields2_w h0 h x s e hbx hE hgd hl
 ·exact fields3_w h0 h x s e hbx hE hgd hl
 ·exact fields4_w h0 h x s e hbx hE hgd hl
 ·exact fields5_w h0 h x s e hbx hE hgd hl
 ·exact fields6_w h0 h x s e hbx hE hgd hl
 ·exact fields7_w h0 h x s e hbx hE hgd hl
 ·exact fields8_w h0 h x s e hbx hE hgd hl
 ·exact fields9_w h0 h x s e hbx hE hgd hl
 ·exact fields10_w h0 h x s e hbx hE hgd hl
theorem RecE.upd{F:Nat→Prop}{w w':World}{x:RecP}{s:Sls}(h:RecE w x s)(hu:Upd F w w')(hF:∀k,k<w.heap.size→¬F k):RecE w' x s:=by
 obtain⟨h1,h2,⟨rs,h3,h4,h5⟩,h6,⟨ds,h7,h8,h9⟩,h10⟩:=h;exact⟨h1.newer hu hF,h2.newer hu hF,⟨rs,h3.newer hu hF,h4,fun q hq=>⟨(h5 q hq).1.newer hu hF,(h5 q hq).2.newer hu hF⟩⟩,h6.newer hu hF,⟨ds,h7.newer hu hF,h8,fun q hq=>(h9 q hq).newer hu hF⟩,h10.newer hu hF⟩
theorem RecE.up{w w':World}{x:RecP}{s:Sls}(h:RecE w x s)(hu:Upd Nowhere w w'):RecE w' x s:=h.upd hu fun _ _ e=>e
theorem bytes_ok{w:World}(x:RecP)(s:Sls)(hk:kindP x.kind=true)(hE:RecE w x s)(hgd:x.good):
 Calls Tryz.prog 123 #[.agg (x.rv s).cells.toArray] w fun e w'=>∃A c,e= .returned (.slice A x.bytes.length c)∧OwnB w.heap.size w' (.slice A x.bytes.length c) x.bytes∧Upd Nowhere w w':=by
 have hU0:=(Upd.refl Nowhere w).alloc (.cells (x.rv s).cells.toArray 39);have hBx:=Blk.new w 39 (x.rv s).cells.toArray;have hE0:=hE.up hU0;have hsz:(w.alloc (.cells (x.rv s).cells.toArray 39)).heap.size=w.heap.size+1:=by simp
 generalize hw0:w.alloc (.cells (x.rv s).cells.toArray 39)=w0 at*;have c0:=hBx.cell 0;simp only[RecP.rv,RecV.cells,qA,qZ]at c0;have hU1:=(Upd.refl Nowhere w0).alloc (.cells #[.slice none 0 0] 193);have hBW:=Blk.new w0 193 #[.slice none 0 0];have hW1:WAt (w.heap.size+1) (w0.alloc (.cells #[.slice none 0 0] 193)) (w.heap.size+1) []:=⟨⟨none,0,by rw[←hsz];exact hBW,OwnR.nil _ _ _ _ _⟩,qlr _⟩
 have hO1:Old (w.heap.size+1) w0 (w0.alloc (.cells #[.slice none 0 0] 193)):=⟨by omega,hU1.any⟩
 obtain⟨k,hkk⟩:=Int.eq_ofNat_of_zero_le hgd.kind.1;have hlen:=hgd.len
 have hbb:x.bytes=shortB k++x.fieldsB:=by
  unfold RecP.bytes numZ;rw[hkk];rfl
 rw[hbb,qla]at hlen;have hn:=wnum2_ok hW1 k (by have:=hgd.kind.2;omega) (by simp)
 rw[List.nil_append]at hn
 have hf:∀w2,WAt (w.heap.size+1) w2 (w.heap.size+1) (shortB k)→Old (w.heap.size+1) w0 w2→Calls Tryz.prog 128 #[cW (w.heap.size+1),.pointer (some ⟨w.heap.size,0,none⟩)] w2 (WrP (w.heap.size+1) (w.heap.size+1) (shortB k++x.fieldsB) w2):=fun w2 hW hO=>
  fields_w hO hW x s hk hBx hE0 hgd (by omega)
 have HN:=qh hn;have HF:=qh hf;have HO1:=qh hO1;have HU0:=qh hU0;have HBB:=qh hbb;have HLEN:=qh hlen;have c0':=(hU1.cell (p:=⟨w.heap.size,0,none⟩) (by show w.heap.size<w0.heap.size;omega) id).trans c0
 rw[hkk]at c0';have HSZ:=qh hsz;have hlt:w.heap.size<w0.heap.size:=by omega
 have hkI:(0:Int)≤(k:Int):=by omega
 unfold cW at HF;obtain⟨v0,v1,v2,v3,v4,v5,v6,v7,v8,v9,v10,v11,v12,v13,v14,v15,hvs⟩:∃v0 v1 v2 v3 v4 v5 v6 v7 v8 v9 v10 v11 v12 v13 v14 v15,(x.rv s).cells=[v0,v1,v2,v3,v4,v5,v6,v7,v8,v9,v10,v11,v12,v13,v14,v15]:=⟨_,_,_,_,_,_,_,_,_,_,_,_,_,_,_,_,rfl⟩;rw[hvs]at hw0 ⊢;have HW0:=qh hw0;clear hk hE hgd hU0 hBx hE0 c0 hw0 hU1 hBW hW1 hO1 hn hf hbb hlen hkk hvs;go_enter Tryz.func123,Tryz.ntmps123
 go_upto_region 1 with(fail)
 rw[HW0.out];go_wp2_with fail
 refine HN.out.mono ?_;rintro e w2 ⟨rfl,hW2,hU2⟩;have HC:=qh (HF.out w2 hW2 (HO1.out.wr (qlr _) hU2));have HU2:=qh hU2;clear hW2 hU2 HN HF;go_wp2_with fail
 refine HC.out.mono ?_;rintro e w3 ⟨rfl,hW3,hU3⟩;have hby:=wbytes_ok hW3 (by rw[qla];have:=HLEN.out;omega)
 rw[←HBB.out]at hby;have HBY:=qh hby;have HU3:=qh (HU2.out.wr hU3);clear hby hW3 hU3 HC;go_wp2_with fail
 refine HBY.out.mono ?_;rintro e w4 ⟨A,c,rfl,hO4,hU4⟩;have HO4:=qh hO4;have HU4:=qh hU4;clear hO4 hU4;go_wp2_with fail
 go_ret
 have h3:Upd Nowhere w0 w3:=((Upd.refl Nowhere w0).alloc (.cells #[.slice none 0 0] 193)).trans HU3.out fun k hk e=>by
  have:=HSZ.out
  rcases e with e | e
  ·omega
  ·have:=e.1;omega
 have h03:=HU0.out.same h3;exact⟨A,c,rfl,HO4.out.far fun k hk=>Nat.le_trans h03.size (HO4.out.new k hk),h03.same HU4.out⟩
end Go.Proofs.YtdfccegeihfdpaaGreatDoor
