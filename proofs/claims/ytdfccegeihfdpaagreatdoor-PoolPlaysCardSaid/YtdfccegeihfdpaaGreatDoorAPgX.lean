/-
  Contracts of the document's pages: May. Contracts of the document's pages: Set.
-/
import Derived.Test.YtdfccegeihfdpaaGreatDoorAPgV
set_option maxRecDepth 100000
set_option maxHeartbeats 8000000
namespace Go.Proofs.YtdfccegeihfdpaaGreatDoor
open Go Go.RowKit
section
variable {P:Program} {ops:Array Oper} {C:World→Prop} {Q:Act→Prop} {K:Act→Prop} {a:Act} {o:Oper} {rest:List Oper}
theorem quiet_val{v:Value}(h:∀w,C w→(execOp a.eval o).run P w= .ok (.value v) w)(hk:K (a.put o.dst v)):o.quiet P a C K:=
 ⟨v,fun w hw=>by unfold Oper.quietAt;rw[h w hw];exact⟨rfl,rfl⟩,hk⟩
theorem quiet_call{f:FuncId}{args:Array Value}{v:Value}(hr:∀w,C w→(execOp a.eval o).run P w= .ok (.enter f args) w)(h:∀w,C w→Calls P f args w fun e w'=>e= .returned v∧C w')(hk:K (a.put o.dst v)):o.quiet P a C K:=
 ⟨v,fun w hw=>by unfold Oper.quietAt;rw[hr w hw];exact⟨rfl,h w hw⟩,hk⟩
theorem wp_region_grown{id:Nat}{Q':Exit→Act→World→Prop}{w0 w:World}{l:List Oper}(hm:P.follows .mixedOrders=true)(hB:Region.lexB .any l.toArray=true)(hw:Upd Nowhere w0 w)
 (h:wpQuiet P l.toArray (fun w'=>Upd Nowhere w0 w') (fun a'=>∀w',Upd Nowhere w0 w'→Q' .normal a' w') l a):(Code.region id l.toArray true).wp P Q' a w:=
 wp_region_quiet (C:=fun w'=>Upd Nowhere w0 w') hm hB hw.drew (by simpa using h)
end
theorem rmay_ok{w:World}{v:Value}{p:PgP}(h:CellsE w v p.cells)(hp:p.ok):Calls Tryz.prog 82 #[.agg #[.int .i64 (p.lsn:Nat),v]] w fun e w'=>e= .returned (.bool true)∧Upd Nowhere w w':=by
 obtain⟨lsn,L⟩:=p;obtain⟨A,c,rfl,hc⟩:=h.val;obtain⟨hlsn,hlen,hris,hmay⟩:=hp;simp only at h hc hlsn hlen hris hmay ⊢;have hb0:=Blk.new w 72 #[.int .i64 (lsn:Nat),.slice A L.length c];have HU0:=qh ((Upd.refl Nowhere w).alloc (.cells #[.int .i64 (lsn:Nat),.slice A L.length c] 72));have HB0:=qh hb0;have H:=qh h
 have HRIS:Hid (∀(i:Nat) (x y:Ky×Vl),L[i]? =some x→L[i+1]? =some y→x.1<y.1):=qh fun i x y hx hy=>by
  obtain⟨h1,rfl⟩:=qei.1 hx;obtain⟨h2,rfl⟩:=qei.1 hy;exact List.pairwise_iff_getElem.1 hris i (i+1) h1 h2 (by omega)
 have HMAY:Hid (∀(i:Nat) (x:Ky×Vl),L[i]? =some x→CellOK x):=qh fun i x hx=>hmay x (qmg hx)
 obtain⟨n,hn⟩:∃n,L.length=n:=⟨_,rfl⟩;rw[hn]at H HB0 HU0 hb0 hlen hc ⊢;have HN:=qh hn;have c0:=hb0.cell 0;have c1:=hb0.cell 1;simp only[qA,qZ,qS]at c0 c1;have g1:¬(lsn:Int)<0:=by omega
 have g2:¬(1099511627776:Int)<(lsn:Int):=by omega
 have g3:¬(4:Int)<(n:Int):=by omega
 clear h hb0 hn hris hmay hlsn;go_enter Tryz.func82,Tryz.ntmps82
 go_wp2_with fail
 generalize w.alloc (.cells #[.int .i64 (lsn:Nat),.slice A n c] 72)=w1 at*;clear c0 c1 g1 g2 g3;go_loopw [3] (fun s3 wr=>∃k:Nat,s3= .int .i64 (k:Int)∧k≤n∧Upd Nowhere w1 wr) (fun s3 _=>n - (intOf s3).toNat)
 case atStart=>exact⟨0,rfl,by omega,Upd.refl _ _⟩
 case round=>
  obtain⟨k,rfl,hk,hu⟩:=hrel;have hbr:=HB0.out.upd hu id;have c1:=hbr.cell 1;simp only[qA,qZ,qS]at c1;by_cases hlt:k<n
  ·obtain⟨⟨kk,vh,vd⟩,hp⟩:∃p,L[k]? =some p:=⟨_,qeg (by rw[HN.out];exact hlt)⟩
   have hce:=(H.out.up HU0.out).up hu;have hg:=hce.get hp;rw[HN.out]at hg;obtain⟨b,off,c',he,hb,p0,p1,p2⟩:=hg
   cases he;simp only at p0 p1 p2;have hi:(k:Int)<(n:Int):=by omega
   have hne:(n:Int)≤4:=by omega
   obtain⟨hs1,hs2⟩:=(HMAY.out k _ hp).says;have HKC:Hid (∀w,Calls Tryz.prog 40 #[strV kk] w fun e w'=>e= .returned (.bool true)∧w'=w):=qh fun w=>by have:=rkey_ok kk w;rwa [hs1]at this
   have HVC:Hid (∀w,Calls Tryz.prog 41 #[.agg #[.bool vh,strV vd]] w (BoolP true w)):=qh fun w=>by have:=rval_ok vh vd w;rwa [hs2]at this
   have HU:=qh hu;have HBR:=qh hbr;have HB:=qh hb;have hq:=Blk.new wr 155 #[strV kk,.bool vh,strV vd];have HUA:=qh ((Upd.refl Nowhere wr).alloc (.cells #[strV kk,.bool vh,strV vd] 155));have hba:=hbr.alloc (.cells #[strV kk,.bool vh,strV vd] 155);obtain⟨m,hm⟩:∃m:Nat,k - 1=m:=⟨_,rfl⟩;obtain⟨⟨pk,ph,pd⟩,hpp⟩:∃p,L[m]? =some p:=⟨_,qeg (by rw[HN.out];omega)⟩
   have hgp:=(hce.up HUA.out).get hpp;rw[HN.out]at hgp;obtain⟨b2,off2,c2,he2,hb2,r0,r1,r2⟩:=hgp
   cases he2;simp only at r0;have hlk:k≠0→pk<kk:=fun h0=>HRIS.out m _ _ hpp (by rw[show m+1=k by omega];exact hp)
   clear r1 r2 hb2;generalize hwA:wr.alloc (.cells #[strV kk,.bool vh,strV vd] 155)=wA at*;obtain⟨bx,hbx⟩:∃bx,wr.heap.size=bx:=⟨_,rfl⟩;rw[hbx]at hq
   have hEE:∀W,Upd Nowhere wA W→(W.cell? ⟨bx,0,none⟩=some (strV kk)∧W.cell? ⟨bx,1,none⟩=some (.bool vh)∧W.cell? ⟨bx,2,none⟩=some (strV vd)∧W.cell? ⟨w.heap.size,1,none⟩=some (.slice (some ⟨b,off,none⟩) n c)∧W.cell? ⟨b,off+m * 3,none⟩=some (strV pk)):=fun W hW=>by
    have q:=hq.upd hW id;have q0:=q.cell 0;have q1:=q.cell 1;have q2:=q.cell 2;have z1:=(hba.upd hW id).cell 1;simp only[qA,qZ,qS]at q0 q1 q2 z1;refine⟨q0,q1,q2,z1,?_⟩;have:=(((hce.up HUA.out).up hW).get hpp);rw[HN.out]at this;obtain⟨b3,off3,c3,he3,_,r3,_⟩:=this
    cases he3;exact r3
   have HEE:=qh hEE;have dd:=hEE wA (Upd.refl _ _);have d2:=hEE wA.drew (Upd.refl Nowhere _).drew;have hKC:=HKC.out;by_cases hk0:k=0
   ·have hkc:¬(0:Int)<(k:Int):=by omega
    have hkn:¬0<k:=by omega
    clear hu hce hbr hs1 hs2 hp hq hba hEE hlk hpp hk0 hm HBR HB HRIS HMAY;go_wp2_with fail
    go_cut [56] (fun t56 wz=>t56= .bool false∧Upd Nowhere wA wz)
    case first=>
     refine wp_region_grown (w0:=wA) (by kernel_rfl) (by kernel_rfl) (Upd.refl _ _) ?_
     go_big_quiet_want
     refine quiet_val (v:= .pointer (some ⟨bx,0,none⟩)) (fun w' hw'=>by obtain⟨q0,q1,q2,q3,q4⟩:=HEE.out w' hw';go_simp) ?_
     go_simp
     go_big_quiet_on
     go_big_quiet_want
     refine quiet_val (v:=strV kk) (fun w' hw'=>by obtain⟨q0,q1,q2,q3,q4⟩:=HEE.out w' hw';go_simp) ?_
     go_simp
     go_big_quiet_on
     go_big_quiet_want
     refine quiet_call (f:=40) (args:=#[strV kk]) (v:= .bool true) (fun w' hw'=>by go_simp) (fun w' hw'=>(hKC w').mono (by rintro e w9 ⟨rfl,rfl⟩;exact⟨rfl,hw'⟩)) ?_
     go_simp
     go_big_quiet_on
     go_big_quiet_want
     refine quiet_val (v:= .bool false) (fun w' hw'=>by obtain⟨q0,q1,q2,q3,q4⟩:=HEE.out w' hw';go_simp) ?_
     go_simp
     go_big_quiet_on
     go_big_quiet_want
     refine BigFrame.quiet_move (.tmp 34) rfl ?_;go_simp
     go_big_quiet_on
     go_big_quiet_want
     refine quiet_val (v:= .pointer (some ⟨bx,1,none⟩)) (fun w' hw'=>by obtain⟨q0,q1,q2,q3,q4⟩:=HEE.out w' hw';go_simp) ?_
     go_simp
     go_big_quiet_on
     go_big_quiet_want
     refine quiet_val (v:= .agg #[.bool vh,strV vd]) (fun w' hw'=>by obtain⟨q0,q1,q2,q3,q4⟩:=HEE.out w' hw';go_simp) ?_
     go_simp
     go_big_quiet_on
     go_big_quiet_want
     refine quiet_call (f:=41) (args:=#[.agg #[.bool vh,strV vd]]) (v:= .bool true) (fun w' hw'=>by go_simp) (fun w' hw'=>(HVC.out w').mono (by rintro e w9 ⟨rfl,hu9⟩;exact⟨rfl,hw'.same hu9⟩)) ?_
     go_simp
     go_big_quiet_on
     go_big_quiet_want
     refine quiet_val (v:= .bool false) (fun w' hw'=>by obtain⟨q0,q1,q2,q3,q4⟩:=HEE.out w' hw';go_simp) ?_
     go_simp
     go_big_quiet_on
     go_big_quiet_want
     refine quiet_val (v:= .bool false) (fun w' hw'=>by obtain⟨q0,q1,q2,q3,q4⟩:=HEE.out w' hw';go_simp) ?_
     go_simp
     go_big_quiet_on
     go_big_quiet_want
     refine BigFrame.quiet_move (.tmp 40) rfl ?_;go_simp
     go_big_quiet_on
     go_big_quiet_want
     refine BigFrame.quiet_move (.tmp 3) rfl ?_;go_simp
     go_big_quiet_on
     go_big_quiet_want
     refine quiet_val (v:= .bool false) (fun w' hw'=>by obtain⟨q0,q1,q2,q3,q4⟩:=HEE.out w' hw';go_simp) ?_
     go_simp
     go_big_quiet_on
     go_big_quiet_want
     refine BigFrame.quiet_move (.tmp 43) rfl ?_;go_simp
     go_big_quiet_on
     go_big_quiet_skip
     go_big_quiet_skip
     go_big_quiet_skip
     go_big_quiet_skip
     go_big_quiet_skip
     go_big_quiet_skip
     go_big_quiet_skip
     go_big_quiet_skip
     go_big_quiet_skip
     go_big_quiet_skip
     go_big_quiet_want
     refine quiet_val (v:= .bool false) (fun w' hw'=>by obtain⟨q0,q1,q2,q3,q4⟩:=HEE.out w' hw';go_simp) ?_
     go_simp
     go_big_quiet_on
     go_big_quiet_want
     refine quiet_val (v:= .bool false) (fun w' hw'=>by obtain⟨q0,q1,q2,q3,q4⟩:=HEE.out w' hw';go_simp) ?_
     go_simp
     go_big_quiet_on
     refine wpQuiet_nil ?_;intro w9 hw9;go_wp2_with fail
     go_meet;exact⟨rfl,hw9⟩
    case rest=>
     obtain⟨rfl,hu⟩:=hcut;go_wp2_with fail
     go_roundw
     case rel=>exact⟨k+1,by go_num,by omega,(HU.out.same HUA.out).same hu⟩
     case measure=>simp[intOf];omega
   ·have hkc:(0:Int)<(k:Int):=by omega
    have hkn:0<k:=by omega
    have hsub:IntKind.i64.wrap ((k:Int) - 1)=(m:Nat):=by rw[IntWalk.i64_in _ (by omega)];omega
    have hlt2:pk<kk:=hlk hk0;have hbl:Op.bytesLess pk kk=true:=by rw[_root_.Go.Proofs.bytesLess_eq];simpa using hlt2
    have hbl2:Op.bytesLess kk pk=false:=by rw[_root_.Go.Proofs.bytesLess_eq];simpa using List.le_of_lt hlt2
    have hbe:(pk == kk)=false:=by rw[beq_eq_false_iff_ne];rintro rfl;exact absurd hlt2 (List.lt_irrefl _)
    have hmn:(m:Int)<(n:Int):=by omega
    clear hu hce hbr hs1 hs2 hp hq hba hEE hlk hpp hk0 hm HBR HB HRIS HMAY hlt2;go_wp2_with fail
    go_cut [56] (fun t56 wz=>t56= .bool false∧Upd Nowhere wA wz)
    case first=>
     go_region_held3 (fun w'=>w'.cell? ⟨bx,0,none⟩=some (strV kk)∧w'.cell? ⟨bx,1,none⟩=some (.bool vh)∧w'.cell? ⟨bx,2,none⟩=some (strV vd)∧w'.cell? ⟨w.heap.size,1,none⟩=some (.slice (some ⟨b,off,none⟩) n c)∧w'.cell? ⟨b,off+m * 3,none⟩=some (strV pk)) (first | with_reducible exact dd | with_reducible exact d2 | with_reducible exact k2)
      (first
        | (go_at_call 40
           refine(hKC _).mono ?_;rintro e w9 ⟨rfl,hw9⟩;obtain rfl:=hw9.symm)
        | (go_at_call 41
           refine(HVC.out _).mono ?_;rintro e w3 ⟨rfl,hU3⟩;have hU3':Upd Nowhere wA w3:=(Upd.refl Nowhere wA).drew.same hU3;have k2:=HEE.out w3 hU3';have HU3:=qh hU3';clear hU3 hU3'))
     all_goals
      go_wp2_with fail
      go_meet;exact⟨rfl,HU3.out⟩
    case rest=>
     obtain⟨rfl,hu⟩:=hcut;go_wp2_with fail
     go_roundw
     case rel=>exact⟨k+1,by go_num,by omega,(HU.out.same HUA.out).same hu⟩
     case measure=>simp[intOf];omega
  ·have e:k=n:=by omega
   subst e;have hi:¬(k:Int)<(k:Int):=by omega
   have HU:=qh hu;clear hu hbr;go_wp2_with fail
   go_ret;exact⟨rfl,HU0.out.same HU.out⟩
def refL(key:Ky)(v:Vl):Bool→Cl→Cl
 | d,[]=>if d then [] else [(key,v)]
 | d,(a,b)::L=>(if d=false∧¬a<key then [(key,v)] else [])++((if a=key then [] else [(a,b)])++refL key v (d || !decide (a<key)) L)
theorem refL_done(key:Ky)(v:Vl):∀L:Cl,(∀p∈L,key<p.1)→refL key v true L=L
 | [],_=>rfl
 | (a,b)::L,h=>by
   have h1:=h (a,b) (List.mem_cons_self ..);have h1:key<a:=h1;have hne:¬a=key:=fun e=>by subst e;exact absurd h1 (List.lt_irrefl _)
   unfold refL;rw[if_neg (by simp),if_neg hne]
   simp only[Bool.true_or,List.nil_append];rw[refL_done key v L fun p hp=>h p (List.mem_cons_of_mem _ hp)];rfl
theorem refL_set(key:Ky)(v:Vl):∀L:Cl,RisC L→refL key v false L=setC L key v
 | [],_=>rfl
 | (a,b)::L,h=>by
   obtain⟨h1,h2⟩:=List.pairwise_cons.1 h;unfold refL setC;by_cases hlt:a<key
   ·have hne:¬a=key:=fun e=>by subst e;exact absurd hlt (List.lt_irrefl _)
    have hn2:¬key<a:=fun e=>absurd (List.lt_trans hlt e) (List.lt_irrefl _)
    rw[if_neg (by simp[hlt]),if_neg hne,if_neg hn2,if_neg hne]
    simp only[hlt,decide_true,Bool.not_true,Bool.or_false,List.nil_append];rw[refL_set key v L h2];rfl
   ·rw[if_pos ⟨rfl,hlt⟩];simp only[hlt,decide_false,Bool.not_false,Bool.or_true];by_cases he:a=key
    ·subst he;rw[if_pos rfl,if_neg (List.lt_irrefl _),if_pos rfl];rw[refL_done a v L fun p hp=>h1 p hp];rfl
    ·have hk:key<a:=Classical.byContradiction fun hge=>he (List.le_antisymm (List.not_lt.1 hge) (List.not_lt.1 hlt))
     rw[if_neg he,if_pos hk];rw[refL_done key v L fun p hp=>List.lt_trans hk (h1 p hp)];rfl
theorem refL_step{key:Ky}{v:Vl}{d:Bool}{L:Cl}{k:Nat}{a:Ky}{b:Vl}(h:L[k]? =some (a,b)):refL key v d (L.drop k)=(if d=false∧¬a<key then [(key,v)] else [])++((if a=key then [] else [(a,b)])++refL key v (d || !decide (a<key)) (L.drop (k+1))):=by
 obtain⟨h1,h2⟩:=qei.1 h;rw[List.drop_eq_getElem_cons h1,h2];rfl
structure RsI(w5:World)(q10 lsn:Nat)(out:Cl)(A:Option Addr)(c m:Nat)(wr:World):Prop where
 len:out.length=m
 blk:Blk wr q10 72 #[.int .i64 (lsn:Nat),.slice A m c]
 own:OwnC w5.heap.size wr (.slice A m c) out
 lt:q10<w5.heap.size
 upd:Upd (fun j=>j=q10) w5 wr
theorem RsI.push{w5 wr W:World}{q10 lsn:Nat}{out:Cl}{A:Option Addr}{c m:Nat}(h:RsI w5 q10 lsn out A c m wr)(hW:Upd Nowhere wr W)(x:Ky×Vl)(hm:m≤1000):
 ∃A9 c9 w9,((Builtin.append_ #[70,70] 70 #[.slice A m c,.slice (some ⟨W.heap.size,0,none⟩) 1 1]).run Tryz.prog (W.alloc (.cells (cellC x).toArray 155))= .ok (.slice A9 (m+1) c9) w9)∧w9.cell? ⟨q10,1,none⟩=some (.slice A m c)∧(∀i,w9.frozen? ⟨q10,i,none⟩=false)∧RsI w5 q10 lsn (out++[x]) A9 c9 (m+1) (w9.setCell ⟨q10,1,none⟩ (.slice A9 (m+1) c9)):=by
 obtain⟨hl,hb,hO,hlt,hu⟩:=h;have hrow:=Blk.new W 155 (cellC x).toArray;have hO2:=(hO.upd hW fun _ _=>id).alloc (.cells (cellC x).toArray 155)
 have hb2:=(hb.upd hW id).alloc (.cells (cellC x).toArray 155);have hu2:=(hu.same hW.any).alloc (.cells (cellC x).toArray 155);have hB:w5.heap.size≤(W.alloc (.cells (cellC x).toArray 155)).heap.size:=hu2.size;subst hl;obtain⟨A9,c9,w9,hrun,hO9,hu9⟩:=cell_row.appU hO2 hB 70 (oneE cellC_len hrow) (by simp;omega)
 have hne:∀k,(Value.slice A out.length c).ownBlock=some k→q10≠k:=fun k hk e=>by
  have:=hO.new k hk;omega
 have hb9:=hb2.upd hu9 fun e=>hne _ e rfl
 have hbs:=hb9.set_ 1 (.slice A9 (out.length+1) c9);have h1:=hb9.cell 1;simp only[qA,qZ,qS,qsA,qsS,qsZ,qls]at h1 hbs hrun hO9;refine⟨A9,c9,w9,hrun,h1,fun i=>hb9.frozen i,⟨by simp,hbs,?_,hlt,?_⟩⟩
 ·refine hO9.upd (Upd.one w9 q10 1 _) fun k hk e=> ?_
  have:=hO9.new k hk;omega
 ·exact(hu2.trans hu9 fun k hk e=>by have:=hO.new k e;omega).same (Upd.one w9 q10 1 _)
def RsetP(lsn:Nat)(key:Ky)(v:Vl)(L:Cl)(w:World)(e:Ending)(w':World):Prop:=(∃A c,e= .returned (.tuple #[.agg #[.int .i64 (lsn:Nat),.slice A (setC L key v).length c],.int .i64 0])∧OwnC w.heap.size w' (.slice A (setC L key v).length c) (setC L key v))∧Upd Nowhere w w'
theorem rset_ok{w:World}{v:Value}{p:PgP}(h:CellsE w v p.cells)(hp:p.ok)(lsn:Nat)(h1:1≤lsn)(h2:lsn≤1099511627776)(key:Ky)(vh:Bool)(vd:Bs)(hc:CellOK (key,(vh,vd)))(hroom:roomB p.cells key=true):Calls Tryz.prog 26 #[.agg #[.int .i64 (p.lsn:Nat),v],.int .i64 (lsn:Nat),strV key,.agg #[.bool vh,strV vd]] w (RsetP lsn key (vh,vd) p.cells w):=by
 obtain⟨A,c,rfl,hcap⟩:=h.val;obtain⟨pl,L⟩:=p;simp only at h hcap hroom ⊢;obtain⟨n,hn⟩:∃n,L.length=n:=⟨_,rfl⟩;have hlen:L.length≤4:=hp.len;have HLEN:=qh hlen;have HN:=qh hn;have hs:=hc.says;obtain⟨wA,hwA⟩:∃wA,wA=((w.alloc (.cells #[.int .i64 (pl:Nat),.slice A n c] 72)).alloc (.cells #[.bool vh,strV vd] 32)).alloc (.cells #[.int .i64 0,.slice none 0 0] 72):=⟨_,rfl⟩;have z1:(w.alloc (.cells #[.int .i64 (pl:Nat),.slice A n c] 72)).heap.size=w.heap.size+1:=by simp
 have z2:((w.alloc (.cells #[.int .i64 (pl:Nat),.slice A n c] 72)).alloc (.cells #[.bool vh,strV vd] 32)).heap.size=w.heap.size+1+1:=by simp
 have zA:wA.heap.size=w.heap.size+1+1+1:=by rw[hwA];simp
 have hb4:Blk wA w.heap.size 72 #[.int .i64 (pl:Nat),.slice A n c]:=by rw[hwA];exact((Blk.new w _ _).alloc _).alloc _
 have hb7:Blk wA (w.heap.size+1) 32 #[.bool vh,strV vd]:=by rw[hwA];exact(Blk.new' _ _ _ z1.symm).alloc _
 have hb8:Blk wA (w.heap.size+1+1) 72 #[.int .i64 0,.slice none 0 0]:=by rw[hwA];exact Blk.new' _ _ _ z2.symm
 have hUA:Upd Nowhere w wA:=by rw[hwA];exact(((Upd.refl Nowhere w).alloc _).alloc _).alloc _
 rw[hn]at h;have HA:=qh (h.up hUA);have HB4:=qh hb4;have HB7:=qh hb7;have HB8:=qh hb8;have HUA:=qh hUA;have HP:=qh hp;have HC:=qh hc;have HZA:=qh zA;have a0:=hb4.cell 0;have a1:=hb4.cell 1;have b0:=hb7.cell 0;have b1:=hb7.cell 1;simp only[qA,qZ,qS]at a0 a1 b0 b1;have k1:¬(lsn:Int)<1:=by omega
 have k2:¬(1099511627776:Int)<(lsn:Int):=by omega
 have HWA:=qh hwA;have HSET:Hid (refL key (vh,vd) false L=setC L key (vh,vd)):=qh (refL_set key (vh,vd) L hp.ris);have HROOM:=qh hroom;have HKC:Hid (∀w,Calls Tryz.prog 40 #[strV key] w fun e w'=>e= .returned (.bool true)∧w'=w):=qh fun w=>by have:=rkey_ok key w;rwa [hs.1]at this
 have HVC:Hid (∀w,Calls Tryz.prog 41 #[.agg #[.bool vh,strV vd]] w (BoolP true w)):=qh fun w=>by have:=rval_ok vh vd w;rwa [hs.2]at this
 clear hwA z1 z2 zA hb4 hb7 hb8 hUA h hp hc hlen hn h1 h2 hs hroom;rw[HN.out];go_enter Tryz.func26,Tryz.ntmps26
 go_upto_region 1 with(fail)
 rw[←HWA.out];go_wp2_with fail
 refine(rmay_ok HA.out HP.out).mono ?_;rintro e w1 ⟨rfl,hu1⟩;have HU1:=qh hu1;have d0:=(HB7.out.upd hu1 id).cell 0;have d1:=(HB7.out.upd hu1 id).cell 1;simp only[qA,qZ,qS]at d0 d1;clear hu1 a0 a1 b0 b1;go_wp2_with (first | (go_at_call 40;refine(HKC.out _).mono ?_;rintro e w9 ⟨rfl,hw9⟩;obtain rfl:=hw9.symm) | (go_at_call 41;refine(HVC.out _).mono ?_;rintro e w2 ⟨rfl,hu2⟩;have HU2:=qh (HU1.out.same hu2);have e0:=(HB4.out.upd HU2.out id).cell 0;have e1:=(HB4.out.upd HU2.out id).cell 1;simp only[qA,qZ,qS]at e0 e1;clear hu2 d0 d1))
 refine(rroom_ok (HA.out.up HU2.out) (by have:=HLEN.out;omega) pl key).mono ?_
 rw[HROOM.out];rintro e w3 ⟨rfl,hu3⟩;have HU3:=qh (HU2.out.same hu3);clear hu3 e0 e1;go_wp2_with fail
 have hb10:=Blk.new w3 72 #[.int .i64 (lsn:Nat),.slice none 0 0];have HUA4:Hid (Upd Nowhere wA (w3.alloc (.cells #[.int .i64 (lsn:Nat),.slice none 0 0] 72))):=qh (HU3.out.alloc _);have HQ8:Hid (w.heap.size+1+1<w3.heap.size):=qh (by have:=HU3.out.size;have:=HZA.out;omega)
 have HQW:Hid (w.heap.size<w3.heap.size):=qh (by have:=HU3.out.size;have:=HZA.out;omega)
 obtain⟨q10,hq10⟩:∃q10,w3.heap.size=q10:=⟨_,rfl⟩;obtain⟨w5,hw5⟩:∃w5,w3.alloc (.cells #[.int .i64 (lsn:Nat),.slice none 0 0] 72)=w5:=⟨_,rfl⟩;rw[hq10]at hb10 HQ8 HQW ⊢;rw[hw5]at HUA4 hb10 ⊢;have HB10:=qh hb10;have HUW:=qh HUA.out;clear hw5 hq10 hb10 HWA HU1 HU2 HU3 hw9 k1 k2 HP;have HRI:Hid (RsI w5 q10 lsn [] none 0 0 w5):=qh ⟨rfl,HB10.out,OwnR.nil _ _ _ _ _,HB10.out.lt,Upd.refl _ _⟩;go_loopw [11,12] (fun s11 s12 wr=>∃(k:Nat) (d:Bool) (out:Cl) (A1:Option Addr) (c1 m:Nat),s12= .int .i64 (k:Int)∧s11= .bool d∧k≤n∧m≤2 * k∧RsI w5 q10 lsn out A1 c1 m wr∧out++refL key (vh,vd) d (L.drop k)=refL key (vh,vd) false L) (fun _ s12 _=>n - (intOf s12).toNat)
 case atStart=>exact⟨0,false,[],none,0,0,rfl,rfl,by omega,by omega,HRI.out,rfl⟩
 case round=>
  obtain⟨k,d,out,A1,c1,m,rfl,rfl,hk,hm,hI,heq⟩:=hrel;have HI:=qh hI;have HEQ:=qh heq;have hua:Upd (fun j=>j=q10) wA wr:=(HUA4.out.any).same hI.upd
  have a4:=(HB4.out.upd hua (fun e=>by have:=HQW.out;omega)).cell 1
  have a7:=(HB7.out.upd hua (fun e=>by have:=HQ8.out;omega)).cell 0
  have a8:=(HB7.out.upd hua (fun e=>by have:=HQ8.out;omega)).cell 1
  have aq:=(hI).blk.cell 1;have af:=(hI).blk.frozen 1;simp only[qA,qZ,qS]at a4 a7 a8 aq;by_cases hlt:k<n
  ·obtain⟨⟨kk,ah,ad⟩,hp⟩:∃p,L[k]? =some p:=⟨_,qeg (by rw[HN.out];exact hlt)⟩
   have hce:=(HA.out.up HUA4.out).upd hI.upd (noC_blk HB10.out (by decide))
   have hg:=hce.get hp;rw[HN.out]at hg;obtain⟨b,off,c',he,hb,p0,p1,p2⟩:=hg
   cases he;simp only at p0 p1 p2;have hi:(k:Int)<(n:Int):=by omega
   have hne:(n:Int)≤4:=by have:=HLEN.out;have:=HN.out;omega
   have hm9:m≤8:=by omega
   have HSTEP:=qh (refL_step (key:=key) (v:=(vh,vd)) (d:=d) hp);have HCE:=qh hce;have HP:=qh hp;have HUA:=qh hua;clear hI heq hua hce hp
   cases d with
   | true=>
     by_cases hkn:kk=key
     ·subst hkn;have hbe:(kk == kk)=true:=by simp
      have HQ2:Hid (out++refL kk (vh,vd) true (L.drop (k+1))=refL kk (vh,vd) false L):=qh (by rw[←HEQ.out,HSTEP.out,if_neg (by simp),if_pos rfl];rfl)
      go_wp2_with fail
      go_roundw
      case rel=>exact⟨k+1,true,out,A1,c1,m,by go_num,rfl,by omega,by omega,HI.out,HQ2.out⟩
      case measure=>simp[intOf];omega
     ·have hbe:(kk == key)=false:=by simpa using hkn
      have HQ2:Hid ((out++[(kk,(ah,ad))])++refL key (vh,vd) true (L.drop (k+1))=refL key (vh,vd) false L):=qh (by rw[←HEQ.out,HSTEP.out,if_neg (by simp),if_neg hkn,qaa];rfl)
      clear hkn;go_wp2_with fail
      obtain⟨A8,c8,w8,hrun8,y1,yf,hI8⟩:=HI.out.push ((Upd.refl Nowhere wr).drew) (kk,(ah,ad)) (by omega)
      unfold cellC at hrun8;have HRUN8:=qh hrun8;have HI8:=qh hI8;have y1f:=yf 1;have aqa:=(HI.out.blk.alloc (.cells #[strV kk,.bool ah,strV ad] 155)).cell 1;simp only[qA,qZ,qS]at aqa;clear hrun8 hI8 yf;go_region_law (refine step_append_run rfl _ _ _ rfl rfl rfl HRUN8.out ?_)
      all_goals
       go_wp2_with fail
       go_roundw
       case rel=>exact⟨k+1,true,_,A8,c8,m+1,by go_num,rfl,by omega,by omega,HI8.out,HQ2.out⟩
       case measure=>simp[intOf];omega
   | false=>
     by_cases hlt2:kk<key
     ·have hbl:Op.bytesLess kk key=true:=by rw[_root_.Go.Proofs.bytesLess_eq];simpa using hlt2
      have hbl2:Op.bytesLess key kk=false:=by rw[_root_.Go.Proofs.bytesLess_eq];simpa using List.le_of_lt hlt2
      have hbe:(kk == key)=false:=by rw[beq_eq_false_iff_ne];rintro rfl;exact absurd hlt2 (List.lt_irrefl _)
      have hkn:¬kk=key:=by rintro rfl;exact absurd hlt2 (List.lt_irrefl _)
      have HQ2:Hid ((out++[(kk,(ah,ad))])++refL key (vh,vd) false (L.drop (k+1))=refL key (vh,vd) false L):=qh (by rw[←HEQ.out,HSTEP.out,if_neg (by simp[hlt2]),if_neg hkn,qaa,decide_eq_true hlt2];rfl)
      clear hkn hlt2;go_wp2_with fail
      obtain⟨A8,c8,w8,hrun8,y1,yf,hI8⟩:=HI.out.push ((Upd.refl Nowhere wr).drew) (kk,(ah,ad)) (by omega)
      unfold cellC at hrun8;have HRUN8:=qh hrun8;have HI8:=qh hI8;have y1f:=yf 1;have aqa:=(HI.out.blk.alloc (.cells #[strV kk,.bool ah,strV ad] 155)).cell 1;simp only[qA,qZ,qS]at aqa;clear hrun8 hI8 yf;go_region_law (refine step_append_run rfl _ _ _ rfl rfl rfl HRUN8.out ?_)
      all_goals
       go_wp2_with fail
       go_roundw
       case rel=>exact⟨k+1,false,_,A8,c8,m+1,by go_num,rfl,by omega,by omega,HI8.out,HQ2.out⟩
       case measure=>simp[intOf];omega
     ·by_cases hkn:kk=key
      ·subst hkn;have hbl:Op.bytesLess kk kk=false:=by rw[_root_.Go.Proofs.bytesLess_eq];simp
       have hbe:(kk == kk)=true:=by simp
       have HQ2:Hid ((out++[(kk,(vh,vd))])++refL kk (vh,vd) true (L.drop (k+1))=refL kk (vh,vd) false L):=qh (by rw[←HEQ.out,HSTEP.out,if_pos ⟨rfl,hlt2⟩,if_pos rfl,qaa,decide_eq_false hlt2];rfl)
       clear hlt2;obtain⟨A9,c9,w9,hrun,z1,zf,hI9⟩:=HI.out.push (Upd.refl Nowhere wr) (kk,(vh,vd)) (by omega)
       unfold cellC at hrun;have HRUN:=qh hrun;have HI9:=qh hI9;have z1f:=zf 1;clear hrun hI9 zf;go_upto_region 12 with(at_builtin;refine wpList_append_run rfl _ _ _ rfl rfl rfl HRUN.out ?_)
       obtain⟨wr2,hwr2⟩:∃wr2,w9.setCell ⟨q10,1,none⟩ (.slice A9 (m+1) c9)=wr2:=⟨_,rfl⟩;rw[hwr2]at HI9 ⊢;have hua2:Upd (fun j=>j=q10) wA wr2:=(HUA4.out.any).same HI9.out.upd
       have hce2:=(HA.out.up HUA4.out).upd HI9.out.upd (noC_blk HB10.out (by decide))
       have hg2:=hce2.get HP.out;rw[HN.out]at hg2;obtain⟨b2,off2,c2',he2,hb2,r0,r1,r2⟩:=hg2
       cases he2;simp only at r0 r1 r2;have b4:=(HB4.out.upd hua2 (fun e=>by have:=HQW.out;omega)).cell 1
       have b7:=(HB7.out.upd hua2 (fun e=>by have:=HQ8.out;omega)).cell 0
       have b8:=(HB7.out.upd hua2 (fun e=>by have:=HQ8.out;omega)).cell 1
       have bq:=(HI9.out).blk.cell 1;have bf:=(HI9.out).blk.frozen 1;simp only[qA,qZ,qS]at b4 b7 b8 bq;clear hwr2 hua2 hce2 p0 p1 p2 a4 a7 a8 aq af z1 z1f HRUN;go_wp2_with fail
       go_roundw
       case rel=>exact⟨k+1,true,_,A9,c9,m+1,by go_num,rfl,by omega,by omega,HI9.out,HQ2.out⟩
       case measure=>simp[intOf];omega
      ·have hgt2:key<kk:=Classical.byContradiction fun hge=>hkn (List.le_antisymm (List.not_lt.1 hge) (List.not_lt.1 hlt2))
       have hbl:Op.bytesLess kk key=false:=by rw[_root_.Go.Proofs.bytesLess_eq];simpa using List.le_of_lt hgt2
       have hbl2:Op.bytesLess key kk=true:=by rw[_root_.Go.Proofs.bytesLess_eq];simpa using hgt2
       have hbe:(kk == key)=false:=by rw[beq_eq_false_iff_ne];rintro rfl;exact absurd hgt2 (List.lt_irrefl _)
       have HQ2:Hid ((out++[(key,(vh,vd))]++[(kk,(ah,ad))])++refL key (vh,vd) true (L.drop (k+1))=refL key (vh,vd) false L):=qh (by rw[←HEQ.out,HSTEP.out,if_pos ⟨rfl,hlt2⟩,if_neg hkn,qaa,qaa,decide_eq_false hlt2];rfl)
       clear hkn hlt2 hgt2;obtain⟨A9,c9,w9,hrun,z1,zf,hI9⟩:=HI.out.push (Upd.refl Nowhere wr) (key,(vh,vd)) (by omega)
       unfold cellC at hrun;have HRUN:=qh hrun;have HI9:=qh hI9;have z1f:=zf 1;clear hrun hI9 zf;go_upto_region 12 with(at_builtin;refine wpList_append_run rfl _ _ _ rfl rfl rfl HRUN.out ?_)
       obtain⟨wr2,hwr2⟩:∃wr2,w9.setCell ⟨q10,1,none⟩ (.slice A9 (m+1) c9)=wr2:=⟨_,rfl⟩;rw[hwr2]at HI9 ⊢;have hua2:Upd (fun j=>j=q10) wA wr2:=(HUA4.out.any).same HI9.out.upd
       have hce2:=(HA.out.up HUA4.out).upd HI9.out.upd (noC_blk HB10.out (by decide))
       have hg2:=hce2.get HP.out;rw[HN.out]at hg2;obtain⟨b2,off2,c2',he2,hb2,r0,r1,r2⟩:=hg2
       cases he2;simp only at r0 r1 r2;have b4:=(HB4.out.upd hua2 (fun e=>by have:=HQW.out;omega)).cell 1
       have b7:=(HB7.out.upd hua2 (fun e=>by have:=HQ8.out;omega)).cell 0
       have b8:=(HB7.out.upd hua2 (fun e=>by have:=HQ8.out;omega)).cell 1
       have bq:=(HI9.out).blk.cell 1;have bf:=(HI9.out).blk.frozen 1;simp only[qA,qZ,qS]at b4 b7 b8 bq;clear hwr2 hua2 hce2 p0 p1 p2 a4 a7 a8 aq af z1 z1f HRUN;go_wp2_with fail
       obtain⟨A8,c8,w8,hrun8,y1,yf,hI8⟩:=HI9.out.push ((Upd.refl Nowhere wr2).drew) (kk,(ah,ad)) (by omega)
       unfold cellC at hrun8;have HRUN8:=qh hrun8;have HI8:=qh hI8;have y1f:=yf 1;have aqa:=(HI9.out.blk.alloc (.cells #[strV kk,.bool ah,strV ad] 155)).cell 1;simp only[qA,qZ,qS]at aqa;clear hrun8 hI8 yf;go_region_law (refine step_append_run rfl _ _ _ rfl rfl rfl HRUN8.out ?_)
       all_goals
        go_wp2_with fail
        go_roundw
        case rel=>exact⟨k+1,true,_,A8,c8,m+1+1,by go_num,rfl,by omega,by omega,HI8.out,HQ2.out⟩
        case measure=>simp[intOf];omega
  ·have e:k=n:=by omega
   subst e;have hi:¬(k:Int)<(k:Int):=by omega
   have hdr:L.drop k=[]:=List.drop_of_length_le (by rw[HN.out];exact qlr _)
   have hm9:m≤8:=by have:=HLEN.out;have:=HN.out;omega
   rw[hdr]at heq;have HQ3:=qh heq;have HUA:=qh hua;clear heq hua hI hdr HEQ
   cases d with
   | true=>
     have HQ4:Hid (out=setC L key (vh,vd)):=qh (by rw[←HSET.out,←HQ3.out];simp[refL])
     have hua2:=HUA.out;have hb8:=HB8.out.upd hua2 (fun e=>by have:=HQ8.out;omega)
     have hbi:=HI.out.blk;have e0:=hbi.cell 0;have e1:=hbi.cell 1;have t0:=hb8.cell 0;have t1:=hb8.cell 1;have f0:=hb8.frozen 0;have f1:=hb8.frozen 1;have hs:=(hb8.set_ 0 (.int .i64 (lsn:Nat))).set_ 1 (.slice A1 m c1);have s0:=hs.cell 0;have s1:=hs.cell 1;simp only[qA,qZ,qS,qsA,qsS,qsZ]at e0 e1 t0 t1 s0 s1;have hlt5:w.heap.size+1+1<w5.heap.size:=by have:=HQ8.out;have:=HI.out.lt;omega
     have HOZ:Hid (OwnC w.heap.size ((wr.setCell ⟨w.heap.size+1+1,0,none⟩ (.int .i64 (lsn:Nat))).setCell ⟨w.heap.size+1+1,1,none⟩ (.slice A1 m c1)) (.slice A1 m c1) (setC L key (vh,vd))):=qh (by
      have ho:=HI.out.own;rw[HQ4.out]at ho;have h1:=ho.upd ((Upd.one wr (w.heap.size+1+1) 0 (.int .i64 (lsn:Nat))).same (Upd.one _ (w.heap.size+1+1) 1 (.slice A1 m c1))) fun k hk e=>by have:=ho.new k hk;omega
      exact h1.far fun k hk=>by have:=ho.new k hk;omega)
     have HUZ:Hid (Upd Nowhere w ((wr.setCell ⟨w.heap.size+1+1,0,none⟩ (.int .i64 (lsn:Nat))).setCell ⟨w.heap.size+1+1,1,none⟩ (.slice A1 m c1))):=qh (((HUW.out.trans hua2 fun k hk e=>by have:=HQW.out;omega).trans ((Upd.one wr (w.heap.size+1+1) 0 (.int .i64 (lsn:Nat))).same (Upd.one _ (w.heap.size+1+1) 1 (.slice A1 m c1))) fun k hk e=>by omega))
     have HLZ:Hid ((setC L key (vh,vd)).length=m):=qh (by rw[←HQ4.out];exact HI.out.len)
     clear hb8 hbi hs hlt5;go_wp2_with fail
     refine bodyPost_ret (v:= .tuple #[.agg #[.int .i64 (lsn:Nat),.slice A1 m c1],.int .i64 0]) (by simp[results,Tryz.results26,go_sem,s0,s1]) rfl ⟨⟨A1,c1,?_,?_⟩,HUZ.out⟩
     ·rw[HLZ.out]
     ·rw[HLZ.out];exact HOZ.out
   | false=>
     have HQ4:Hid (out++[(key,(vh,vd))]=setC L key (vh,vd)):=qh (by rw[←HSET.out,←HQ3.out];simp[refL])
     obtain⟨A9,c9,w9,hrun,z1,zf,hI9⟩:=HI.out.push (Upd.refl Nowhere wr) (key,(vh,vd)) (by omega)
     unfold cellC at hrun;have HRUN:=qh hrun;have HI9:=qh hI9;have z1f:=zf 1;clear hrun hI9 zf;go_upto_region 17 with(at_builtin;refine wpList_append_run rfl _ _ _ rfl rfl rfl HRUN.out ?_)
     obtain⟨wr2,hwr2⟩:∃wr2,w9.setCell ⟨q10,1,none⟩ (.slice A9 (m+1) c9)=wr2:=⟨_,rfl⟩;rw[hwr2]at HI9 ⊢;have hua2:Upd (fun j=>j=q10) wA wr2:=(HUA4.out.any).same HI9.out.upd
     clear hwr2 a4 a7 a8 aq af z1 z1f HRUN;have hb8:=HB8.out.upd hua2 (fun e=>by have:=HQ8.out;omega)
     have hbi:=HI9.out.blk;have e0:=hbi.cell 0;have e1:=hbi.cell 1;have t0:=hb8.cell 0;have t1:=hb8.cell 1;have f0:=hb8.frozen 0;have f1:=hb8.frozen 1;have hs:=(hb8.set_ 0 (.int .i64 (lsn:Nat))).set_ 1 (.slice A9 (m+1) c9);have s0:=hs.cell 0;have s1:=hs.cell 1;simp only[qA,qZ,qS,qsA,qsS,qsZ]at e0 e1 t0 t1 s0 s1;have hlt5:w.heap.size+1+1<w5.heap.size:=by have:=HQ8.out;have:=HI9.out.lt;omega
     have HOZ:Hid (OwnC w.heap.size ((wr2.setCell ⟨w.heap.size+1+1,0,none⟩ (.int .i64 (lsn:Nat))).setCell ⟨w.heap.size+1+1,1,none⟩ (.slice A9 (m+1) c9)) (.slice A9 (m+1) c9) (setC L key (vh,vd))):=qh (by
      have ho:=HI9.out.own;rw[HQ4.out]at ho;have h1:=ho.upd ((Upd.one wr2 (w.heap.size+1+1) 0 (.int .i64 (lsn:Nat))).same (Upd.one _ (w.heap.size+1+1) 1 (.slice A9 (m+1) c9))) fun k hk e=>by have:=ho.new k hk;omega
      exact h1.far fun k hk=>by have:=ho.new k hk;omega)
     have HUZ:Hid (Upd Nowhere w ((wr2.setCell ⟨w.heap.size+1+1,0,none⟩ (.int .i64 (lsn:Nat))).setCell ⟨w.heap.size+1+1,1,none⟩ (.slice A9 (m+1) c9))):=qh (((HUW.out.trans hua2 fun k hk e=>by have:=HQW.out;omega).trans ((Upd.one wr2 (w.heap.size+1+1) 0 (.int .i64 (lsn:Nat))).same (Upd.one _ (w.heap.size+1+1) 1 (.slice A9 (m+1) c9))) fun k hk e=>by omega))
     have HLZ:Hid ((setC L key (vh,vd)).length=(m+1)):=qh (by rw[←HQ4.out];exact HI9.out.len)
     clear hb8 hbi hs hlt5;go_wp2_with fail
     refine bodyPost_ret (v:= .tuple #[.agg #[.int .i64 (lsn:Nat),.slice A9 (m+1) c9],.int .i64 0]) (by simp[results,Tryz.results26,go_sem,s0,s1]) rfl ⟨⟨A9,c9,?_,?_⟩,HUZ.out⟩
     ·rw[HLZ.out]
     ·rw[HLZ.out];exact HOZ.out
end Go.Proofs.YtdfccegeihfdpaaGreatDoor
