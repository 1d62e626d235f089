/-
  Layer 7: has a record something that its kind hasn't.
-/
import Derived.Test.YtljmmkjdlcfkpaaGreatDoorMWqC
import Derived.Test.YtljmmkjdlcfkpaaGreatDoorMPr
set_option maxRecDepth 100000
set_option maxHeartbeats 4000000
namespace Go.Proofs.YtljmmkjdlcfkpaaGreatDoor
open Go Go.RowKit
theorem Blk.all16{w:World}{g t:Nat}{a0 a1 a2 a3 a4 a5 a6 a7 a8 a9 a10 a11 a12 a13 a14 a15:Value}(h:Blk w g t #[a0,a1,a2,a3,a4,a5,a6,a7,a8,a9,a10,a11,a12,a13,a14,a15]):
 w.cell? ⟨g,0,none⟩=some a0∧w.cell? ⟨g,1,none⟩=some a1∧w.cell? ⟨g,2,none⟩=some a2∧w.cell? ⟨g,3,none⟩=some a3∧w.cell? ⟨g,4,none⟩=some a4∧w.cell? ⟨g,5,none⟩=some a5∧w.cell? ⟨g,6,none⟩=some a6∧w.cell? ⟨g,7,none⟩=some a7∧
 w.cell? ⟨g,8,none⟩=some a8∧w.cell? ⟨g,9,none⟩=some a9∧w.cell? ⟨g,10,none⟩=some a10∧w.cell? ⟨g,11,none⟩=some a11∧w.cell? ⟨g,12,none⟩=some a12∧w.cell? ⟨g,13,none⟩=some a13∧w.cell? ⟨g,14,none⟩=some a14∧w.cell? ⟨g,15,none⟩=some a15:=
 ⟨h.cell 0,h.cell 1,h.cell 2,h.cell 3,h.cell 4,h.cell 5,h.cell 6,h.cell 7,h.cell 8,h.cell 9,h.cell 10,h.cell 11,h.cell 12,h.cell 13,h.cell 14,h.cell 15⟩
section
variable {β:Nat→Nat} {w:World}
theorem conds_nil{P:Program}:∀c∈([]:List PCond),c.ok P β w:=fun c h=>by cases h
theorem conds_cons{P:Program}{c:PCond}{l:List PCond}(h:c.ok P β w)(hl:∀c∈l,c.ok P β w):∀c'∈c::l,c'.ok P β w:=fun c' hc=>by
 rcases qmc.1 hc with rfl | hc
 ·exact h
 ·exact hl c' hc
def cI(t:Nat)(a:Int)(z:Bool):PCond:=⟨.neq,3,.tmp t,.const (.int .i64 0),.v (.int .i64 a),.v (.int .i64 0),.b z⟩
def cS(t:Nat)(a:Bs)(z:Bool):PCond:=⟨.neq,9,.tmp t,.const (.string ⟨#[]⟩),.v (strV a),.v (strV []),.b z⟩
def cV(t:Nat)(o:Bool)(d:Bs)(z:Bool):PCond:=⟨.neq,31,.tmp t,.tmp (t+1),.v (.agg #[.bool o,strV d]),.v (.agg #[.bool false,strV []]),.b z⟩
def cA(t t':Nat)(a b:Int):PCond:=⟨.add,3,.tmp t,.tmp t',.v (.int .i64 a),.v (.int .i64 b),.v (.int .i64 (a+b))⟩
theorem cI_ok{t:Nat}{a:Int}{z:Bool}(h:(a != 0)=z):(cI t a z).ok Tryz.prog β w:=by
 subst h;simp[cI,PCond.ok,eqGuard,binOp,Op.intCmp,SV.den]
theorem cS_ok{t:Nat}{a:Bs}{z:Bool}(h:(a != [])=z):(cS t a z).ok Tryz.prog β w:=by
 subst h;simp[cS,PCond.ok,eqGuard,binOp,Op.stringOp,SV.den,bne]
theorem cA_ok{t t':Nat}{a b:Int}(hb: -1000000000≤a+b∧a+b≤1000000000):(cA t t' a b).ok Tryz.prog β w:=by
 have hw:IntKind.i64.wrap (a+b)=a+b:=IntWalk.i64_in _ (by omega)
 simp[cA,PCond.ok,eqGuard,binOp,Op.intArith,SV.den,hw]
theorem cV_ok{t:Nat}{o:Bool}{d:Bs}{z:Bool}(h:(o || (d != []))=z):(cV t o d z).ok Tryz.prog β w:=by
 subst h;simp only[cV,PCond.ok,SV.den];go_simp
 cases o
 ·by_cases hd:d=[]
  ·simp[hd]
  ·simp[hd]
 ·simp
end
def spareB(no:BareP)(prev next:Int)(key:Bs)(oh:Bool)(od:Bs)(nh:Bool)(nd:Bs)(coord:Int)(n1 n2 n3 n4 n5 n6:Nat):Bool:=
 (no.prev && (prev != 0)) || ((no.next && (next != 0)) || ((no.key && (key != [])) || ((no.old && (oh || (od != []))) || ((no.new && (nh || (nd != []))) || ((no.coord && (coord != 0)) || ((no.mem && (((n1:Nat):Int) != 0)) || ((no.loc && (((n2:Nat):Int) != 0)) || (no.lists && (((n3:Nat):Int)+(n4:Nat)+(n5:Nat)+(n6:Nat) != 0)))))))))
def threeB(a b c:Nat):Nat→Nat
 | 0=>a
 | 1=>b
 | _=>c
def recSV(x:RecP)(s:Sls):List SV:=[.v (.int .i64 x.kind),.v (.int .i64 x.tx),.v (.int .i64 x.prev),.v (.int .i64 x.next),.v (strV x.key),.b x.oh,.v (strV x.od),.b x.nh,.v (strV x.nd),.v (.int .i64 x.coord),.v (slV s.mem),.v (slV s.loc),.v (slV s.row),.v (slV s.dir),.v (slV s.dee),.v (slV s.pas)]
def spS(x:RecP)(s:Sls)(b:BareP):List SV:=[.v (.agg (x.rv s).cells.toArray),.p 0 0,.b false,.p 1 0,.p 2 0,.p 0 0,.v (.int .i64 x.kind),.v (.agg b.arr),.v (.agg #[.bool false,.string ⟨#[]⟩])]++List.replicate 96 .u
def spM(x:RecP)(s:Sls)(b:BareP):List (List SV):=[recSV x s,[.b b.prev,.b b.next,.b b.key,.b b.old,.b b.new,.b b.coord,.b b.mem,.b b.loc,.b b.lists],[.b false,.v (strV [])]]
def spOps:List POp:=[⟨some 9,none,.fa (.tmp 3) 0⟩,⟨some 10,none,.ld (.tmp 9)⟩,⟨some 11,none,.mv (.tmp 10)⟩,⟨some 12,some (some 11,true),.fa (.tmp 1) 2⟩,⟨some 13,some (some 11,true),.ld (.tmp 12)⟩,⟨some 14,some (some 11,true),.bin .neq 3 (.tmp 13) (.const (.int .i64 0))⟩,⟨some 15,none,.pk (.tmp 11) (.tmp 14) (.const (.bool false))⟩,⟨some 16,none,.mv (.tmp 15)⟩,⟨some 17,some (some 16,false),.fa (.tmp 3) 1⟩,⟨some 18,some (some 16,false),.ld (.tmp 17)⟩,⟨some 19,some (some 16,false),.mv (.tmp 18)⟩,⟨some 20,some (some 19,true),.fa (.tmp 1) 3⟩,⟨some 21,some (some 19,true),.ld (.tmp 20)⟩,⟨some 22,some (some 19,true),.bin .neq 3 (.tmp 21) (.const (.int .i64 0))⟩,⟨some 23,some (some 16,false),.pk (.tmp 19) (.tmp 22) (.const (.bool false))⟩,⟨some 24,none,.pk (.tmp 16) (.const (.bool true)) (.tmp 23)⟩,⟨some 25,none,.mv (.tmp 24)⟩,⟨some 26,some (some 25,false),.fa (.tmp 3) 2⟩,⟨some 27,some (some 25,false),.ld (.tmp 26)⟩,⟨some 28,some (some 25,false),.mv (.tmp 27)⟩,⟨some 29,some (some 28,true),.fa (.tmp 1) 4⟩,⟨some 30,some (some 28,true),.ld (.tmp 29)⟩,⟨some 31,some (some 28,true),.bin .neq 9 (.tmp 30) (.const (.string ⟨#[]⟩))⟩,⟨some 32,some (some 25,false),.pk (.tmp 28) (.tmp 31) (.const (.bool false))⟩,⟨some 33,none,.pk (.tmp 25) (.const (.bool true)) (.tmp 32)⟩,⟨some 34,none,.mv (.tmp 33)⟩,⟨some 35,some (some 34,false),.fa (.tmp 3) 3⟩,⟨some 36,some (some 34,false),.ld (.tmp 35)⟩,⟨some 37,some (some 34,false),.mv (.tmp 36)⟩,⟨some 38,some (some 37,true),.fa (.tmp 1) 5⟩,⟨some 39,some (some 37,true),.l2 (.tmp 38)⟩,⟨some 40,some (some 37,true),.l2 (.tmp 4)⟩,⟨some 41,some (some 37,true),.bin .neq 31 (.tmp 39) (.tmp 40)⟩,⟨some 42,some (some 34,false),.pk (.tmp 37) (.tmp 41) (.const (.bool false))⟩,⟨some 43,none,.pk (.tmp 34) (.const (.bool true)) (.tmp 42)⟩,⟨some 44,none,.mv (.tmp 43)⟩,⟨some 45,some (some 44,false),.fa (.tmp 3) 4⟩,⟨some 46,some (some 44,false),.ld (.tmp 45)⟩,⟨some 47,some (some 44,false),.mv (.tmp 46)⟩,⟨some 48,some (some 47,true),.fa (.tmp 1) 7⟩,⟨some 49,some (some 47,true),.l2 (.tmp 48)⟩,⟨some 50,some (some 47,true),.l2 (.tmp 4)⟩,⟨some 51,some (some 47,true),.bin .neq 31 (.tmp 49) (.tmp 50)⟩,⟨some 52,some (some 44,false),.pk (.tmp 47) (.tmp 51) (.const (.bool false))⟩,⟨some 53,none,.pk (.tmp 44) (.const (.bool true)) (.tmp 52)⟩,⟨some 54,none,.mv (.tmp 53)⟩,⟨some 55,some (some 54,false),.fa (.tmp 3) 5⟩,⟨some 56,some (some 54,false),.ld (.tmp 55)⟩,⟨some 57,some (some 54,false),.mv (.tmp 56)⟩,⟨some 58,some (some 57,true),.fa (.tmp 1) 9⟩,⟨some 59,some (some 57,true),.ld (.tmp 58)⟩,⟨some 60,some (some 57,true),.bin .neq 3 (.tmp 59) (.const (.int .i64 0))⟩,⟨some 61,some (some 54,false),.pk (.tmp 57) (.tmp 60) (.const (.bool false))⟩,⟨some 62,none,.pk (.tmp 54) (.const (.bool true)) (.tmp 61)⟩,⟨some 63,none,.mv (.tmp 62)⟩,⟨some 64,some (some 63,false),.fa (.tmp 3) 6⟩,⟨some 65,some (some 63,false),.ld (.tmp 64)⟩,⟨some 66,some (some 63,false),.mv (.tmp 65)⟩,⟨some 67,some (some 66,true),.fa (.tmp 1) 10⟩,⟨some 68,some (some 66,true),.ld (.tmp 67)⟩,⟨some 69,some (some 66,true),.len (.tmp 68)⟩,⟨some 70,some (some 66,true),.bin .neq 3 (.tmp 69) (.const (.int .i64 0))⟩,⟨some 71,some (some 63,false),.pk (.tmp 66) (.tmp 70) (.const (.bool false))⟩,⟨some 72,none,.pk (.tmp 63) (.const (.bool true)) (.tmp 71)⟩,⟨some 73,none,.mv (.tmp 72)⟩,⟨some 74,some (some 73,false),.fa (.tmp 3) 7⟩,⟨some 75,some (some 73,false),.ld (.tmp 74)⟩,⟨some 76,some (some 73,false),.mv (.tmp 75)⟩,⟨some 77,some (some 76,true),.fa (.tmp 1) 11⟩,⟨some 78,some (some 76,true),.ld (.tmp 77)⟩,⟨some 79,some (some 76,true),.len (.tmp 78)⟩,⟨some 80,some (some 76,true),.bin .neq 3 (.tmp 79) (.const (.int .i64 0))⟩,⟨some 81,some (some 73,false),.pk (.tmp 76) (.tmp 80) (.const (.bool false))⟩,⟨some 82,none,.pk (.tmp 73) (.const (.bool true)) (.tmp 81)⟩,⟨some 83,none,.mv (.tmp 82)⟩,⟨some 84,some (some 83,false),.fa (.tmp 3) 8⟩,⟨some 85,some (some 83,false),.ld (.tmp 84)⟩,⟨some 86,some (some 83,false),.mv (.tmp 85)⟩,⟨some 87,some (some 86,true),.fa (.tmp 1) 12⟩,⟨some 88,some (some 86,true),.ld (.tmp 87)⟩,⟨some 89,some (some 86,true),.len (.tmp 88)⟩,⟨some 90,some (some 86,true),.fa (.tmp 1) 13⟩,⟨some 91,some (some 86,true),.ld (.tmp 90)⟩,⟨some 92,some (some 86,true),.len (.tmp 91)⟩,⟨some 93,some (some 86,true),.bin .add 3 (.tmp 89) (.tmp 92)⟩,⟨some 94,some (some 86,true),.fa (.tmp 1) 14⟩,⟨some 95,some (some 86,true),.ld (.tmp 94)⟩,⟨some 96,some (some 86,true),.len (.tmp 95)⟩,⟨some 97,some (some 86,true),.bin .add 3 (.tmp 93) (.tmp 96)⟩,⟨some 98,some (some 86,true),.fa (.tmp 1) 15⟩,⟨some 99,some (some 86,true),.ld (.tmp 98)⟩,⟨some 100,some (some 86,true),.len (.tmp 99)⟩,⟨some 101,some (some 86,true),.bin .add 3 (.tmp 97) (.tmp 100)⟩,⟨some 102,some (some 86,true),.bin .neq 3 (.tmp 101) (.const (.int .i64 0))⟩,⟨some 103,some (some 83,false),.pk (.tmp 86) (.tmp 102) (.const (.bool false))⟩,⟨some 104,none,.pk (.tmp 83) (.const (.bool true)) (.tmp 103)⟩,⟨some 2,none,.mv (.tmp 104)⟩]
theorem spare_run(x:RecP)(s:Sls)(b:BareP)(w:World)(hw:∀w,Calls Tryz.prog 140 #[.int .i64 x.kind] w fun e w'=>e= .returned (.agg b.arr)∧Upd Nowhere w w')
 {orc:List SV} {r:Bool} {cs:List PCond} (hrun:(runP (spM x s b) spOps (spS x s b) orc).map (fun r=>(nthB r.1 2,r.2))=some (some (.b r),cs)) (hc:∀(β:Nat→Nat) (w:World),∀c∈cs,c.ok Tryz.prog β w):
 Calls Tryz.prog 102 #[.agg (x.rv s).cells.toArray] w (BoolP r w):=by
 have HW:=qh hw;have HU0:=qh ((Upd.refl Nowhere w).alloc (.cells #[.int .i64 x.kind,.int .i64 x.tx,.int .i64 x.prev,.int .i64 x.next,strV x.key,.bool x.oh,strV x.od,.bool x.nh,strV x.nd,.int .i64 x.coord,.slice s.mem.1 s.mem.2.1 s.mem.2.2,.slice s.loc.1 s.loc.2.1 s.loc.2.2,.slice s.row.1 s.row.2.1 s.row.2.2,.slice s.dir.1 s.dir.2.1 s.dir.2.2,.slice s.dee.1 s.dee.2.1 s.dee.2.2,.slice s.pas.1 s.pas.2.1 s.pas.2.2] 38));have HB:=qh (Blk.new w 38 #[.int .i64 x.kind,.int .i64 x.tx,.int .i64 x.prev,.int .i64 x.next,strV x.key,.bool x.oh,strV x.od,.bool x.nh,strV x.nd,.int .i64 x.coord,.slice s.mem.1 s.mem.2.1 s.mem.2.2,.slice s.loc.1 s.loc.2.1 s.loc.2.2,.slice s.row.1 s.row.2.1 s.row.2.2,.slice s.dir.1 s.dir.2.1 s.dir.2.2,.slice s.dee.1 s.dee.2.1 s.dee.2.2,.slice s.pas.1 s.pas.2.1 s.pas.2.2]);have HRUN:=qh hrun;have HC:=qh hc;clear hw hrun hc
 show Calls Tryz.prog 102 #[.agg #[.int .i64 x.kind,.int .i64 x.tx,.int .i64 x.prev,.int .i64 x.next,strV x.key,.bool x.oh,strV x.od,.bool x.nh,strV x.nd,.int .i64 x.coord,.slice s.mem.1 s.mem.2.1 s.mem.2.2,.slice s.loc.1 s.loc.2.1 s.loc.2.2,.slice s.row.1 s.row.2.1 s.row.2.2,.slice s.dir.1 s.dir.2.1 s.dir.2.2,.slice s.dee.1 s.dee.2.1 s.dee.2.2,.slice s.pas.1 s.pas.2.1 s.pas.2.2]] w (BoolP r w)
 go_enter Tryz.func102,Tryz.ntmps102
 go_wp2_with fail
 refine(HW.out _).mono ?_;rintro e w2 ⟨rfl,hU1⟩;unfold BareP.arr;have hB1:=HB.out.upd hU1 id;have HU:=qh ((HU0.out.same hU1).alloc (.cells #[.bool b.prev,.bool b.next,.bool b.key,.bool b.old,.bool b.new,.bool b.coord,.bool b.mem,.bool b.loc,.bool b.lists] 223) |>.alloc (.cells #[.bool false,.string ⟨#[]⟩] 31));have hbA:=(hB1.alloc (.cells #[.bool b.prev,.bool b.next,.bool b.key,.bool b.old,.bool b.new,.bool b.coord,.bool b.mem,.bool b.loc,.bool b.lists] 223)).alloc (.cells #[.bool false,.string ⟨#[]⟩] 31);have hbB:=(Blk.new w2 223 #[.bool b.prev,.bool b.next,.bool b.key,.bool b.old,.bool b.new,.bool b.coord,.bool b.mem,.bool b.loc,.bool b.lists]).alloc (.cells #[.bool false,.string ⟨#[]⟩] 31);have hbC:=Blk.new' (w2.alloc (.cells #[.bool b.prev,.bool b.next,.bool b.key,.bool b.old,.bool b.new,.bool b.coord,.bool b.mem,.bool b.loc,.bool b.lists] 223)) (g:=w2.heap.size+1) 31 #[.bool false,.string ⟨#[]⟩] (by simp)
 have hT:=qh (recT_ok (β:=threeB w.heap.size w2.heap.size (w2.heap.size+1)) (M:=spM x s b) (fun k l hl=>by
  match k,hl with
  | 0,hl=>simp only[spM,nthB,Option.some.injEq]at hl;subst hl;exact row_tab (k:=0) hbA rfl
  | 1,hl=>simp only[spM,nthB,Option.some.injEq]at hl;subst hl;exact row_tab (k:=1) hbB rfl
  | 2,hl=>simp only[spM,nthB,Option.some.injEq]at hl;subst hl;exact row_tab (k:=2) hbC rfl
  | n+3,hl=>simp[spM,nthB]at hl))
 clear hbA hbB hbC hU1 HW HB HU0 hB1;go_upto_region 3 with(fail)
 rename_i K hK
 refine wp_region_ps hT.out (ps:=spOps) (s:=spS x s b) (ds:=[]) (orc:=orc) (k:=2) (z:= .b r) (cs:=cs) (by kernel_rfl) (by kernel_rfl) HRUN.out (HC.out _ _) ?_
 intro tmps ht;refine hK _ _ (wp_ret (bodyPost_ret (results_tmp rfl _ _ _) rfl ?_));rw[ht];exact⟨rfl,HU.out⟩
theorem spare_a(x:RecP)(s:Sls)(h3:(s.row.2.1:Int)≤90000)(h4:(s.dir.2.1:Int)≤90000)(h5:(s.dee.2.1:Int)≤90000)(h6:(s.pas.2.1:Int)≤90000)(w:World)(hw:∀w,Calls Tryz.prog 140 #[.int .i64 x.kind] w fun e w'=>e= .returned (.agg (BareP.arr ⟨false,true,false,false,false,true,true,true,true⟩))∧Upd Nowhere w w'):
 Calls Tryz.prog 102 #[.agg (x.rv s).cells.toArray] w (BoolP (spareB ⟨false,true,false,false,false,true,true,true,true⟩ x.prev x.next x.key x.oh x.od x.nh x.nd x.coord s.mem.2.1 s.loc.2.1 s.row.2.1 s.dir.2.1 s.dee.2.1 s.pas.2.1) w):=by
 cases e_next:(x.next != 0) with
 | true=>
   rw[show spareB ⟨false,true,false,false,false,true,true,true,true⟩ _ _ _ _ _ _ _ _ _ _ _ _ _ _=true from by unfold spareB;rw[e_next];rfl]
   exact spare_run x s _ w hw (orc:=[.b true]) (cs:=[cI 21 x.next true]) (by kernel_rfl) fun β w=>conds_cons (cI_ok e_next) (conds_nil)
 | false=>
   cases e_coord:(x.coord != 0) with
   | true=>
     rw[show spareB ⟨false,true,false,false,false,true,true,true,true⟩ _ _ _ _ _ _ _ _ _ _ _ _ _ _=true from by unfold spareB;rw[e_next,e_coord];rfl]
     exact spare_run x s _ w hw (orc:=[.b false,.b true]) (cs:=[cI 21 x.next false,cI 59 x.coord true]) (by kernel_rfl) fun β w=>conds_cons (cI_ok e_next) (conds_cons (cI_ok e_coord) (conds_nil))
   | false=>
     cases e_mem:(((s.mem.2.1:Nat):Int) != 0) with
     | true=>
       rw[show spareB ⟨false,true,false,false,false,true,true,true,true⟩ _ _ _ _ _ _ _ _ _ _ _ _ _ _=true from by unfold spareB;rw[e_next,e_coord,e_mem];rfl]
       exact spare_run x s _ w hw (orc:=[.b false,.b false,.b true]) (cs:=[cI 21 x.next false,cI 59 x.coord false,cI 69 ((s.mem.2.1:Nat):Int) true]) (by kernel_rfl) fun β w=>conds_cons (cI_ok e_next) (conds_cons (cI_ok e_coord) (conds_cons (cI_ok e_mem) (conds_nil)))
     | false=>
       cases e_loc:(((s.loc.2.1:Nat):Int) != 0) with
       | true=>
         rw[show spareB ⟨false,true,false,false,false,true,true,true,true⟩ _ _ _ _ _ _ _ _ _ _ _ _ _ _=true from by unfold spareB;rw[e_next,e_coord,e_mem,e_loc];rfl]
         exact spare_run x s _ w hw (orc:=[.b false,.b false,.b false,.b true]) (cs:=[cI 21 x.next false,cI 59 x.coord false,cI 69 ((s.mem.2.1:Nat):Int) false,cI 79 ((s.loc.2.1:Nat):Int) true]) (by kernel_rfl) fun β w=>conds_cons (cI_ok e_next) (conds_cons (cI_ok e_coord) (conds_cons (cI_ok e_mem) (conds_cons (cI_ok e_loc) (conds_nil))))
       | false=>
         cases e_lists:(((s.row.2.1:Nat):Int)+(s.dir.2.1:Nat)+(s.dee.2.1:Nat)+(s.pas.2.1:Nat) != 0) with
         | true=>
           rw[show spareB ⟨false,true,false,false,false,true,true,true,true⟩ _ _ _ _ _ _ _ _ _ _ _ _ _ _=true from by unfold spareB;rw[e_next,e_coord,e_mem,e_loc,e_lists];rfl]
           exact spare_run x s _ w hw (orc:=[.b false,.b false,.b false,.b false,.v (.int .i64 (((s.row.2.1:Nat):Int)+(s.dir.2.1:Nat))),.v (.int .i64 (((s.row.2.1:Nat):Int)+(s.dir.2.1:Nat)+(s.dee.2.1:Nat))),.v (.int .i64 (((s.row.2.1:Nat):Int)+(s.dir.2.1:Nat)+(s.dee.2.1:Nat)+(s.pas.2.1:Nat))),.b true]) (cs:=[cI 21 x.next false,cI 59 x.coord false,cI 69 ((s.mem.2.1:Nat):Int) false,cI 79 ((s.loc.2.1:Nat):Int) false,cA 89 92 ((s.row.2.1:Nat):Int) ((s.dir.2.1:Nat):Int),cA 93 96 (((s.row.2.1:Nat):Int)+(s.dir.2.1:Nat)) ((s.dee.2.1:Nat):Int),cA 97 100 (((s.row.2.1:Nat):Int)+(s.dir.2.1:Nat)+(s.dee.2.1:Nat)) ((s.pas.2.1:Nat):Int),cI 101 (((s.row.2.1:Nat):Int)+(s.dir.2.1:Nat)+(s.dee.2.1:Nat)+(s.pas.2.1:Nat)) true]) (by kernel_rfl) fun β w=>conds_cons (cI_ok e_next) (conds_cons (cI_ok e_coord) (conds_cons (cI_ok e_mem) (conds_cons (cI_ok e_loc) (conds_cons (cA_ok (by omega)) (conds_cons (cA_ok (by omega)) (conds_cons (cA_ok (by omega)) (conds_cons (cI_ok e_lists) (conds_nil))))))))
         | false=>
           rw[show spareB ⟨false,true,false,false,false,true,true,true,true⟩ _ _ _ _ _ _ _ _ _ _ _ _ _ _=false from by unfold spareB;rw[e_next,e_coord,e_mem,e_loc,e_lists];rfl]
           exact spare_run x s _ w hw (orc:=[.b false,.b false,.b false,.b false,.v (.int .i64 (((s.row.2.1:Nat):Int)+(s.dir.2.1:Nat))),.v (.int .i64 (((s.row.2.1:Nat):Int)+(s.dir.2.1:Nat)+(s.dee.2.1:Nat))),.v (.int .i64 (((s.row.2.1:Nat):Int)+(s.dir.2.1:Nat)+(s.dee.2.1:Nat)+(s.pas.2.1:Nat))),.b false]) (cs:=[cI 21 x.next false,cI 59 x.coord false,cI 69 ((s.mem.2.1:Nat):Int) false,cI 79 ((s.loc.2.1:Nat):Int) false,cA 89 92 ((s.row.2.1:Nat):Int) ((s.dir.2.1:Nat):Int),cA 93 96 (((s.row.2.1:Nat):Int)+(s.dir.2.1:Nat)) ((s.dee.2.1:Nat):Int),cA 97 100 (((s.row.2.1:Nat):Int)+(s.dir.2.1:Nat)+(s.dee.2.1:Nat)) ((s.pas.2.1:Nat):Int),cI 101 (((s.row.2.1:Nat):Int)+(s.dir.2.1:Nat)+(s.dee.2.1:Nat)+(s.pas.2.1:Nat)) false]) (by kernel_rfl) fun β w=>conds_cons (cI_ok e_next) (conds_cons (cI_ok e_coord) (conds_cons (cI_ok e_mem) (conds_cons (cI_ok e_loc) (conds_cons (cA_ok (by omega)) (conds_cons (cA_ok (by omega)) (conds_cons (cA_ok (by omega)) (conds_cons (cI_ok e_lists) (conds_nil))))))))
theorem spare_b(x:RecP)(s:Sls)(h3:(s.row.2.1:Int)≤90000)(h4:(s.dir.2.1:Int)≤90000)(h5:(s.dee.2.1:Int)≤90000)(h6:(s.pas.2.1:Int)≤90000)(w:World)(hw:∀w,Calls Tryz.prog 140 #[.int .i64 x.kind] w fun e w'=>e= .returned (.agg (BareP.arr ⟨false,false,false,true,false,true,true,true,true⟩))∧Upd Nowhere w w'):
 Calls Tryz.prog 102 #[.agg (x.rv s).cells.toArray] w (BoolP (spareB ⟨false,false,false,true,false,true,true,true,true⟩ x.prev x.next x.key x.oh x.od x.nh x.nd x.coord s.mem.2.1 s.loc.2.1 s.row.2.1 s.dir.2.1 s.dee.2.1 s.pas.2.1) w):=by
 cases e_old:(x.oh || (x.od != [])) with
 | true=>
   rw[show spareB ⟨false,false,false,true,false,true,true,true,true⟩ _ _ _ _ _ _ _ _ _ _ _ _ _ _=true from by unfold spareB;rw[e_old];rfl]
   exact spare_run x s _ w hw (orc:=[.b true]) (cs:=[cV 39 x.oh x.od true]) (by kernel_rfl) fun β w=>conds_cons (cV_ok e_old) (conds_nil)
 | false=>
   cases e_coord:(x.coord != 0) with
   | true=>
     rw[show spareB ⟨false,false,false,true,false,true,true,true,true⟩ _ _ _ _ _ _ _ _ _ _ _ _ _ _=true from by unfold spareB;rw[e_old,e_coord];rfl]
     exact spare_run x s _ w hw (orc:=[.b false,.b true]) (cs:=[cV 39 x.oh x.od false,cI 59 x.coord true]) (by kernel_rfl) fun β w=>conds_cons (cV_ok e_old) (conds_cons (cI_ok e_coord) (conds_nil))
   | false=>
     cases e_mem:(((s.mem.2.1:Nat):Int) != 0) with
     | true=>
       rw[show spareB ⟨false,false,false,true,false,true,true,true,true⟩ _ _ _ _ _ _ _ _ _ _ _ _ _ _=true from by unfold spareB;rw[e_old,e_coord,e_mem];rfl]
       exact spare_run x s _ w hw (orc:=[.b false,.b false,.b true]) (cs:=[cV 39 x.oh x.od false,cI 59 x.coord false,cI 69 ((s.mem.2.1:Nat):Int) true]) (by kernel_rfl) fun β w=>conds_cons (cV_ok e_old) (conds_cons (cI_ok e_coord) (conds_cons (cI_ok e_mem) (conds_nil)))
     | false=>
       cases e_loc:(((s.loc.2.1:Nat):Int) != 0) with
       | true=>
         rw[show spareB ⟨false,false,false,true,false,true,true,true,true⟩ _ _ _ _ _ _ _ _ _ _ _ _ _ _=true from by unfold spareB;rw[e_old,e_coord,e_mem,e_loc];rfl]
         exact spare_run x s _ w hw (orc:=[.b false,.b false,.b false,.b true]) (cs:=[cV 39 x.oh x.od false,cI 59 x.coord false,cI 69 ((s.mem.2.1:Nat):Int) false,cI 79 ((s.loc.2.1:Nat):Int) true]) (by kernel_rfl) fun β w=>conds_cons (cV_ok e_old) (conds_cons (cI_ok e_coord) (conds_cons (cI_ok e_mem) (conds_cons (cI_ok e_loc) (conds_nil))))
       | false=>
         cases e_lists:(((s.row.2.1:Nat):Int)+(s.dir.2.1:Nat)+(s.dee.2.1:Nat)+(s.pas.2.1:Nat) != 0) with
         | true=>
           rw[show spareB ⟨false,false,false,true,false,true,true,true,true⟩ _ _ _ _ _ _ _ _ _ _ _ _ _ _=true from by unfold spareB;rw[e_old,e_coord,e_mem,e_loc,e_lists];rfl]
           exact spare_run x s _ w hw (orc:=[.b false,.b false,.b false,.b false,.v (.int .i64 (((s.row.2.1:Nat):Int)+(s.dir.2.1:Nat))),.v (.int .i64 (((s.row.2.1:Nat):Int)+(s.dir.2.1:Nat)+(s.dee.2.1:Nat))),.v (.int .i64 (((s.row.2.1:Nat):Int)+(s.dir.2.1:Nat)+(s.dee.2.1:Nat)+(s.pas.2.1:Nat))),.b true]) (cs:=[cV 39 x.oh x.od false,cI 59 x.coord false,cI 69 ((s.mem.2.1:Nat):Int) false,cI 79 ((s.loc.2.1:Nat):Int) false,cA 89 92 ((s.row.2.1:Nat):Int) ((s.dir.2.1:Nat):Int),cA 93 96 (((s.row.2.1:Nat):Int)+(s.dir.2.1:Nat)) ((s.dee.2.1:Nat):Int),cA 97 100 (((s.row.2.1:Nat):Int)+(s.dir.2.1:Nat)+(s.dee.2.1:Nat)) ((s.pas.2.1:Nat):Int),cI 101 (((s.row.2.1:Nat):Int)+(s.dir.2.1:Nat)+(s.dee.2.1:Nat)+(s.pas.2.1:Nat)) true]) (by kernel_rfl) fun β w=>conds_cons (cV_ok e_old) (conds_cons (cI_ok e_coord) (conds_cons (cI_ok e_mem) (conds_cons (cI_ok e_loc) (conds_cons (cA_ok (by omega)) (conds_cons (cA_ok (by omega)) (conds_cons (cA_ok (by omega)) (conds_cons (cI_ok e_lists) (conds_nil))))))))
         | false=>
           rw[show spareB ⟨false,false,false,true,false,true,true,true,true⟩ _ _ _ _ _ _ _ _ _ _ _ _ _ _=false from by unfold spareB;rw[e_old,e_coord,e_mem,e_loc,e_lists];rfl]
           exact spare_run x s _ w hw (orc:=[.b false,.b false,.b false,.b false,.v (.int .i64 (((s.row.2.1:Nat):Int)+(s.dir.2.1:Nat))),.v (.int .i64 (((s.row.2.1:Nat):Int)+(s.dir.2.1:Nat)+(s.dee.2.1:Nat))),.v (.int .i64 (((s.row.2.1:Nat):Int)+(s.dir.2.1:Nat)+(s.dee.2.1:Nat)+(s.pas.2.1:Nat))),.b false]) (cs:=[cV 39 x.oh x.od false,cI 59 x.coord false,cI 69 ((s.mem.2.1:Nat):Int) false,cI 79 ((s.loc.2.1:Nat):Int) false,cA 89 92 ((s.row.2.1:Nat):Int) ((s.dir.2.1:Nat):Int),cA 93 96 (((s.row.2.1:Nat):Int)+(s.dir.2.1:Nat)) ((s.dee.2.1:Nat):Int),cA 97 100 (((s.row.2.1:Nat):Int)+(s.dir.2.1:Nat)+(s.dee.2.1:Nat)) ((s.pas.2.1:Nat):Int),cI 101 (((s.row.2.1:Nat):Int)+(s.dir.2.1:Nat)+(s.dee.2.1:Nat)+(s.pas.2.1:Nat)) false]) (by kernel_rfl) fun β w=>conds_cons (cV_ok e_old) (conds_cons (cI_ok e_coord) (conds_cons (cI_ok e_mem) (conds_cons (cI_ok e_loc) (conds_cons (cA_ok (by omega)) (conds_cons (cA_ok (by omega)) (conds_cons (cA_ok (by omega)) (conds_cons (cI_ok e_lists) (conds_nil))))))))
theorem spare_c(x:RecP)(s:Sls)(h3:(s.row.2.1:Int)≤90000)(h4:(s.dir.2.1:Int)≤90000)(h5:(s.dee.2.1:Int)≤90000)(h6:(s.pas.2.1:Int)≤90000)(w:World)(hw:∀w,Calls Tryz.prog 140 #[.int .i64 x.kind] w fun e w'=>e= .returned (.agg (BareP.arr ⟨false,true,true,true,true,false,false,false,true⟩))∧Upd Nowhere w w'):
 Calls Tryz.prog 102 #[.agg (x.rv s).cells.toArray] w (BoolP (spareB ⟨false,true,true,true,true,false,false,false,true⟩ x.prev x.next x.key x.oh x.od x.nh x.nd x.coord s.mem.2.1 s.loc.2.1 s.row.2.1 s.dir.2.1 s.dee.2.1 s.pas.2.1) w):=by
 cases e_next:(x.next != 0) with
 | true=>
   rw[show spareB ⟨false,true,true,true,true,false,false,false,true⟩ _ _ _ _ _ _ _ _ _ _ _ _ _ _=true from by unfold spareB;rw[e_next];rfl]
   exact spare_run x s _ w hw (orc:=[.b true]) (cs:=[cI 21 x.next true]) (by kernel_rfl) fun β w=>conds_cons (cI_ok e_next) (conds_nil)
 | false=>
   cases e_key:(x.key != []) with
   | true=>
     rw[show spareB ⟨false,true,true,true,true,false,false,false,true⟩ _ _ _ _ _ _ _ _ _ _ _ _ _ _=true from by unfold spareB;rw[e_next,e_key];rfl]
     exact spare_run x s _ w hw (orc:=[.b false,.b true]) (cs:=[cI 21 x.next false,cS 30 x.key true]) (by kernel_rfl) fun β w=>conds_cons (cI_ok e_next) (conds_cons (cS_ok e_key) (conds_nil))
   | false=>
     cases e_old:(x.oh || (x.od != [])) with
     | true=>
       rw[show spareB ⟨false,true,true,true,true,false,false,false,true⟩ _ _ _ _ _ _ _ _ _ _ _ _ _ _=true from by unfold spareB;rw[e_next,e_key,e_old];rfl]
       exact spare_run x s _ w hw (orc:=[.b false,.b false,.b true]) (cs:=[cI 21 x.next false,cS 30 x.key false,cV 39 x.oh x.od true]) (by kernel_rfl) fun β w=>conds_cons (cI_ok e_next) (conds_cons (cS_ok e_key) (conds_cons (cV_ok e_old) (conds_nil)))
     | false=>
       cases e_new:(x.nh || (x.nd != [])) with
       | true=>
         rw[show spareB ⟨false,true,true,true,true,false,false,false,true⟩ _ _ _ _ _ _ _ _ _ _ _ _ _ _=true from by unfold spareB;rw[e_next,e_key,e_old,e_new];rfl]
         exact spare_run x s _ w hw (orc:=[.b false,.b false,.b false,.b true]) (cs:=[cI 21 x.next false,cS 30 x.key false,cV 39 x.oh x.od false,cV 49 x.nh x.nd true]) (by kernel_rfl) fun β w=>conds_cons (cI_ok e_next) (conds_cons (cS_ok e_key) (conds_cons (cV_ok e_old) (conds_cons (cV_ok e_new) (conds_nil))))
       | false=>
         cases e_lists:(((s.row.2.1:Nat):Int)+(s.dir.2.1:Nat)+(s.dee.2.1:Nat)+(s.pas.2.1:Nat) != 0) with
         | true=>
           rw[show spareB ⟨false,true,true,true,true,false,false,false,true⟩ _ _ _ _ _ _ _ _ _ _ _ _ _ _=true from by unfold spareB;rw[e_next,e_key,e_old,e_new,e_lists];rfl]
           exact spare_run x s _ w hw (orc:=[.b false,.b false,.b false,.b false,.v (.int .i64 (((s.row.2.1:Nat):Int)+(s.dir.2.1:Nat))),.v (.int .i64 (((s.row.2.1:Nat):Int)+(s.dir.2.1:Nat)+(s.dee.2.1:Nat))),.v (.int .i64 (((s.row.2.1:Nat):Int)+(s.dir.2.1:Nat)+(s.dee.2.1:Nat)+(s.pas.2.1:Nat))),.b true]) (cs:=[cI 21 x.next false,cS 30 x.key false,cV 39 x.oh x.od false,cV 49 x.nh x.nd false,cA 89 92 ((s.row.2.1:Nat):Int) ((s.dir.2.1:Nat):Int),cA 93 96 (((s.row.2.1:Nat):Int)+(s.dir.2.1:Nat)) ((s.dee.2.1:Nat):Int),cA 97 100 (((s.row.2.1:Nat):Int)+(s.dir.2.1:Nat)+(s.dee.2.1:Nat)) ((s.pas.2.1:Nat):Int),cI 101 (((s.row.2.1:Nat):Int)+(s.dir.2.1:Nat)+(s.dee.2.1:Nat)+(s.pas.2.1:Nat)) true]) (by kernel_rfl) fun β w=>conds_cons (cI_ok e_next) (conds_cons (cS_ok e_key) (conds_cons (cV_ok e_old) (conds_cons (cV_ok e_new) (conds_cons (cA_ok (by omega)) (conds_cons (cA_ok (by omega)) (conds_cons (cA_ok (by omega)) (conds_cons (cI_ok e_lists) (conds_nil))))))))
         | false=>
           rw[show spareB ⟨false,true,true,true,true,false,false,false,true⟩ _ _ _ _ _ _ _ _ _ _ _ _ _ _=false from by unfold spareB;rw[e_next,e_key,e_old,e_new,e_lists];rfl]
           exact spare_run x s _ w hw (orc:=[.b false,.b false,.b false,.b false,.v (.int .i64 (((s.row.2.1:Nat):Int)+(s.dir.2.1:Nat))),.v (.int .i64 (((s.row.2.1:Nat):Int)+(s.dir.2.1:Nat)+(s.dee.2.1:Nat))),.v (.int .i64 (((s.row.2.1:Nat):Int)+(s.dir.2.1:Nat)+(s.dee.2.1:Nat)+(s.pas.2.1:Nat))),.b false]) (cs:=[cI 21 x.next false,cS 30 x.key false,cV 39 x.oh x.od false,cV 49 x.nh x.nd false,cA 89 92 ((s.row.2.1:Nat):Int) ((s.dir.2.1:Nat):Int),cA 93 96 (((s.row.2.1:Nat):Int)+(s.dir.2.1:Nat)) ((s.dee.2.1:Nat):Int),cA 97 100 (((s.row.2.1:Nat):Int)+(s.dir.2.1:Nat)+(s.dee.2.1:Nat)) ((s.pas.2.1:Nat):Int),cI 101 (((s.row.2.1:Nat):Int)+(s.dir.2.1:Nat)+(s.dee.2.1:Nat)+(s.pas.2.1:Nat)) false]) (by kernel_rfl) fun β w=>conds_cons (cI_ok e_next) (conds_cons (cS_ok e_key) (conds_cons (cV_ok e_old) (conds_cons (cV_ok e_new) (conds_cons (cA_ok (by omega)) (conds_cons (cA_ok (by omega)) (conds_cons (cA_ok (by omega)) (conds_cons (cI_ok e_lists) (conds_nil))))))))
theorem spare_d(x:RecP)(s:Sls)(h3:(s.row.2.1:Int)≤90000)(h4:(s.dir.2.1:Int)≤90000)(h5:(s.dee.2.1:Int)≤90000)(h6:(s.pas.2.1:Int)≤90000)(w:World)(hw:∀w,Calls Tryz.prog 140 #[.int .i64 x.kind] w fun e w'=>e= .returned (.agg (BareP.arr ⟨false,true,true,true,true,true,true,true,true⟩))∧Upd Nowhere w w'):
 Calls Tryz.prog 102 #[.agg (x.rv s).cells.toArray] w (BoolP (spareB ⟨false,true,true,true,true,true,true,true,true⟩ x.prev x.next x.key x.oh x.od x.nh x.nd x.coord s.mem.2.1 s.loc.2.1 s.row.2.1 s.dir.2.1 s.dee.2.1 s.pas.2.1) w):=by
 cases e_next:(x.next != 0) with
 | true=>
   rw[show spareB ⟨false,true,true,true,true,true,true,true,true⟩ _ _ _ _ _ _ _ _ _ _ _ _ _ _=true from by unfold spareB;rw[e_next];rfl]
   exact spare_run x s _ w hw (orc:=[.b true]) (cs:=[cI 21 x.next true]) (by kernel_rfl) fun β w=>conds_cons (cI_ok e_next) (conds_nil)
 | false=>
   cases e_key:(x.key != []) with
   | true=>
     rw[show spareB ⟨false,true,true,true,true,true,true,true,true⟩ _ _ _ _ _ _ _ _ _ _ _ _ _ _=true from by unfold spareB;rw[e_next,e_key];rfl]
     exact spare_run x s _ w hw (orc:=[.b false,.b true]) (cs:=[cI 21 x.next false,cS 30 x.key true]) (by kernel_rfl) fun β w=>conds_cons (cI_ok e_next) (conds_cons (cS_ok e_key) (conds_nil))
   | false=>
     cases e_old:(x.oh || (x.od != [])) with
     | true=>
       rw[show spareB ⟨false,true,true,true,true,true,true,true,true⟩ _ _ _ _ _ _ _ _ _ _ _ _ _ _=true from by unfold spareB;rw[e_next,e_key,e_old];rfl]
       exact spare_run x s _ w hw (orc:=[.b false,.b false,.b true]) (cs:=[cI 21 x.next false,cS 30 x.key false,cV 39 x.oh x.od true]) (by kernel_rfl) fun β w=>conds_cons (cI_ok e_next) (conds_cons (cS_ok e_key) (conds_cons (cV_ok e_old) (conds_nil)))
     | false=>
       cases e_new:(x.nh || (x.nd != [])) with
       | true=>
         rw[show spareB ⟨false,true,true,true,true,true,true,true,true⟩ _ _ _ _ _ _ _ _ _ _ _ _ _ _=true from by unfold spareB;rw[e_next,e_key,e_old,e_new];rfl]
         exact spare_run x s _ w hw (orc:=[.b false,.b false,.b false,.b true]) (cs:=[cI 21 x.next false,cS 30 x.key false,cV 39 x.oh x.od false,cV 49 x.nh x.nd true]) (by kernel_rfl) fun β w=>conds_cons (cI_ok e_next) (conds_cons (cS_ok e_key) (conds_cons (cV_ok e_old) (conds_cons (cV_ok e_new) (conds_nil))))
       | false=>
         cases e_coord:(x.coord != 0) with
         | true=>
           rw[show spareB ⟨false,true,true,true,true,true,true,true,true⟩ _ _ _ _ _ _ _ _ _ _ _ _ _ _=true from by unfold spareB;rw[e_next,e_key,e_old,e_new,e_coord];rfl]
           exact spare_run x s _ w hw (orc:=[.b false,.b false,.b false,.b false,.b true]) (cs:=[cI 21 x.next false,cS 30 x.key false,cV 39 x.oh x.od false,cV 49 x.nh x.nd false,cI 59 x.coord true]) (by kernel_rfl) fun β w=>conds_cons (cI_ok e_next) (conds_cons (cS_ok e_key) (conds_cons (cV_ok e_old) (conds_cons (cV_ok e_new) (conds_cons (cI_ok e_coord) (conds_nil)))))
         | false=>
           cases e_mem:(((s.mem.2.1:Nat):Int) != 0) with
           | true=>
             rw[show spareB ⟨false,true,true,true,true,true,true,true,true⟩ _ _ _ _ _ _ _ _ _ _ _ _ _ _=true from by unfold spareB;rw[e_next,e_key,e_old,e_new,e_coord,e_mem];rfl]
             exact spare_run x s _ w hw (orc:=[.b false,.b false,.b false,.b false,.b false,.b true]) (cs:=[cI 21 x.next false,cS 30 x.key false,cV 39 x.oh x.od false,cV 49 x.nh x.nd false,cI 59 x.coord false,cI 69 ((s.mem.2.1:Nat):Int) true]) (by kernel_rfl) fun β w=>conds_cons (cI_ok e_next) (conds_cons (cS_ok e_key) (conds_cons (cV_ok e_old) (conds_cons (cV_ok e_new) (conds_cons (cI_ok e_coord) (conds_cons (cI_ok e_mem) (conds_nil))))))
           | false=>
             cases e_loc:(((s.loc.2.1:Nat):Int) != 0) with
             | true=>
               rw[show spareB ⟨false,true,true,true,true,true,true,true,true⟩ _ _ _ _ _ _ _ _ _ _ _ _ _ _=true from by unfold spareB;rw[e_next,e_key,e_old,e_new,e_coord,e_mem,e_loc];rfl]
               exact spare_run x s _ w hw (orc:=[.b false,.b false,.b false,.b false,.b false,.b false,.b true]) (cs:=[cI 21 x.next false,cS 30 x.key false,cV 39 x.oh x.od false,cV 49 x.nh x.nd false,cI 59 x.coord false,cI 69 ((s.mem.2.1:Nat):Int) false,cI 79 ((s.loc.2.1:Nat):Int) true]) (by kernel_rfl) fun β w=>conds_cons (cI_ok e_next) (conds_cons (cS_ok e_key) (conds_cons (cV_ok e_old) (conds_cons (cV_ok e_new) (conds_cons (cI_ok e_coord) (conds_cons (cI_ok e_mem) (conds_cons (cI_ok e_loc) (conds_nil)))))))
             | false=>
               cases e_lists:(((s.row.2.1:Nat):Int)+(s.dir.2.1:Nat)+(s.dee.2.1:Nat)+(s.pas.2.1:Nat) != 0) with
               | true=>
                 rw[show spareB ⟨false,true,true,true,true,true,true,true,true⟩ _ _ _ _ _ _ _ _ _ _ _ _ _ _=true from by unfold spareB;rw[e_next,e_key,e_old,e_new,e_coord,e_mem,e_loc,e_lists];rfl]
                 exact spare_run x s _ w hw (orc:=[.b false,.b false,.b false,.b false,.b false,.b false,.b false,.v (.int .i64 (((s.row.2.1:Nat):Int)+(s.dir.2.1:Nat))),.v (.int .i64 (((s.row.2.1:Nat):Int)+(s.dir.2.1:Nat)+(s.dee.2.1:Nat))),.v (.int .i64 (((s.row.2.1:Nat):Int)+(s.dir.2.1:Nat)+(s.dee.2.1:Nat)+(s.pas.2.1:Nat))),.b true]) (cs:=[cI 21 x.next false,cS 30 x.key false,cV 39 x.oh x.od false,cV 49 x.nh x.nd false,cI 59 x.coord false,cI 69 ((s.mem.2.1:Nat):Int) false,cI 79 ((s.loc.2.1:Nat):Int) false,cA 89 92 ((s.row.2.1:Nat):Int) ((s.dir.2.1:Nat):Int),cA 93 96 (((s.row.2.1:Nat):Int)+(s.dir.2.1:Nat)) ((s.dee.2.1:Nat):Int),cA 97 100 (((s.row.2.1:Nat):Int)+(s.dir.2.1:Nat)+(s.dee.2.1:Nat)) ((s.pas.2.1:Nat):Int),cI 101 (((s.row.2.1:Nat):Int)+(s.dir.2.1:Nat)+(s.dee.2.1:Nat)+(s.pas.2.1:Nat)) true]) (by kernel_rfl) fun β w=>conds_cons (cI_ok e_next) (conds_cons (cS_ok e_key) (conds_cons (cV_ok e_old) (conds_cons (cV_ok e_new) (conds_cons (cI_ok e_coord) (conds_cons (cI_ok e_mem) (conds_cons (cI_ok e_loc) (conds_cons (cA_ok (by omega)) (conds_cons (cA_ok (by omega)) (conds_cons (cA_ok (by omega)) (conds_cons (cI_ok e_lists) (conds_nil)))))))))))
               | false=>
                 rw[show spareB ⟨false,true,true,true,true,true,true,true,true⟩ _ _ _ _ _ _ _ _ _ _ _ _ _ _=false from by unfold spareB;rw[e_next,e_key,e_old,e_new,e_coord,e_mem,e_loc,e_lists];rfl]
                 exact spare_run x s _ w hw (orc:=[.b false,.b false,.b false,.b false,.b false,.b false,.b false,.v (.int .i64 (((s.row.2.1:Nat):Int)+(s.dir.2.1:Nat))),.v (.int .i64 (((s.row.2.1:Nat):Int)+(s.dir.2.1:Nat)+(s.dee.2.1:Nat))),.v (.int .i64 (((s.row.2.1:Nat):Int)+(s.dir.2.1:Nat)+(s.dee.2.1:Nat)+(s.pas.2.1:Nat))),.b false]) (cs:=[cI 21 x.next false,cS 30 x.key false,cV 39 x.oh x.od false,cV 49 x.nh x.nd false,cI 59 x.coord false,cI 69 ((s.mem.2.1:Nat):Int) false,cI 79 ((s.loc.2.1:Nat):Int) false,cA 89 92 ((s.row.2.1:Nat):Int) ((s.dir.2.1:Nat):Int),cA 93 96 (((s.row.2.1:Nat):Int)+(s.dir.2.1:Nat)) ((s.dee.2.1:Nat):Int),cA 97 100 (((s.row.2.1:Nat):Int)+(s.dir.2.1:Nat)+(s.dee.2.1:Nat)) ((s.pas.2.1:Nat):Int),cI 101 (((s.row.2.1:Nat):Int)+(s.dir.2.1:Nat)+(s.dee.2.1:Nat)+(s.pas.2.1:Nat)) false]) (by kernel_rfl) fun β w=>conds_cons (cI_ok e_next) (conds_cons (cS_ok e_key) (conds_cons (cV_ok e_old) (conds_cons (cV_ok e_new) (conds_cons (cI_ok e_coord) (conds_cons (cI_ok e_mem) (conds_cons (cI_ok e_loc) (conds_cons (cA_ok (by omega)) (conds_cons (cA_ok (by omega)) (conds_cons (cA_ok (by omega)) (conds_cons (cI_ok e_lists) (conds_nil)))))))))))
theorem spare_e(x:RecP)(s:Sls)(h3:(s.row.2.1:Int)≤90000)(h4:(s.dir.2.1:Int)≤90000)(h5:(s.dee.2.1:Int)≤90000)(h6:(s.pas.2.1:Int)≤90000)(w:World)(hw:∀w,Calls Tryz.prog 140 #[.int .i64 x.kind] w fun e w'=>e= .returned (.agg (BareP.arr ⟨true,true,true,true,true,true,true,true,true⟩))∧Upd Nowhere w w'):
 Calls Tryz.prog 102 #[.agg (x.rv s).cells.toArray] w (BoolP (spareB ⟨true,true,true,true,true,true,true,true,true⟩ x.prev x.next x.key x.oh x.od x.nh x.nd x.coord s.mem.2.1 s.loc.2.1 s.row.2.1 s.dir.2.1 s.dee.2.1 s.pas.2.1) w):=by
 cases e_prev:(x.prev != 0) with
 | true=>
   rw[show spareB ⟨true,true,true,true,true,true,true,true,true⟩ _ _ _ _ _ _ _ _ _ _ _ _ _ _=true from by unfold spareB;rw[e_prev];rfl]
   exact spare_run x s _ w hw (orc:=[.b true]) (cs:=[cI 13 x.prev true]) (by kernel_rfl) fun β w=>conds_cons (cI_ok e_prev) (conds_nil)
 | false=>
   cases e_next:(x.next != 0) with
   | true=>
     rw[show spareB ⟨true,true,true,true,true,true,true,true,true⟩ _ _ _ _ _ _ _ _ _ _ _ _ _ _=true from by unfold spareB;rw[e_prev,e_next];rfl]
     exact spare_run x s _ w hw (orc:=[.b false,.b true]) (cs:=[cI 13 x.prev false,cI 21 x.next true]) (by kernel_rfl) fun β w=>conds_cons (cI_ok e_prev) (conds_cons (cI_ok e_next) (conds_nil))
   | false=>
     cases e_key:(x.key != []) with
     | true=>
       rw[show spareB ⟨true,true,true,true,true,true,true,true,true⟩ _ _ _ _ _ _ _ _ _ _ _ _ _ _=true from by unfold spareB;rw[e_prev,e_next,e_key];rfl]
       exact spare_run x s _ w hw (orc:=[.b false,.b false,.b true]) (cs:=[cI 13 x.prev false,cI 21 x.next false,cS 30 x.key true]) (by kernel_rfl) fun β w=>conds_cons (cI_ok e_prev) (conds_cons (cI_ok e_next) (conds_cons (cS_ok e_key) (conds_nil)))
     | false=>
       cases e_old:(x.oh || (x.od != [])) with
       | true=>
         rw[show spareB ⟨true,true,true,true,true,true,true,true,true⟩ _ _ _ _ _ _ _ _ _ _ _ _ _ _=true from by unfold spareB;rw[e_prev,e_next,e_key,e_old];rfl]
         exact spare_run x s _ w hw (orc:=[.b false,.b false,.b false,.b true]) (cs:=[cI 13 x.prev false,cI 21 x.next false,cS 30 x.key false,cV 39 x.oh x.od true]) (by kernel_rfl) fun β w=>conds_cons (cI_ok e_prev) (conds_cons (cI_ok e_next) (conds_cons (cS_ok e_key) (conds_cons (cV_ok e_old) (conds_nil))))
       | false=>
         cases e_new:(x.nh || (x.nd != [])) with
         | true=>
           rw[show spareB ⟨true,true,true,true,true,true,true,true,true⟩ _ _ _ _ _ _ _ _ _ _ _ _ _ _=true from by unfold spareB;rw[e_prev,e_next,e_key,e_old,e_new];rfl]
           exact spare_run x s _ w hw (orc:=[.b false,.b false,.b false,.b false,.b true]) (cs:=[cI 13 x.prev false,cI 21 x.next false,cS 30 x.key false,cV 39 x.oh x.od false,cV 49 x.nh x.nd true]) (by kernel_rfl) fun β w=>conds_cons (cI_ok e_prev) (conds_cons (cI_ok e_next) (conds_cons (cS_ok e_key) (conds_cons (cV_ok e_old) (conds_cons (cV_ok e_new) (conds_nil)))))
         | false=>
           cases e_coord:(x.coord != 0) with
           | true=>
             rw[show spareB ⟨true,true,true,true,true,true,true,true,true⟩ _ _ _ _ _ _ _ _ _ _ _ _ _ _=true from by unfold spareB;rw[e_prev,e_next,e_key,e_old,e_new,e_coord];rfl]
             exact spare_run x s _ w hw (orc:=[.b false,.b false,.b false,.b false,.b false,.b true]) (cs:=[cI 13 x.prev false,cI 21 x.next false,cS 30 x.key false,cV 39 x.oh x.od false,cV 49 x.nh x.nd false,cI 59 x.coord true]) (by kernel_rfl) fun β w=>conds_cons (cI_ok e_prev) (conds_cons (cI_ok e_next) (conds_cons (cS_ok e_key) (conds_cons (cV_ok e_old) (conds_cons (cV_ok e_new) (conds_cons (cI_ok e_coord) (conds_nil))))))
           | false=>
             cases e_mem:(((s.mem.2.1:Nat):Int) != 0) with
             | true=>
               rw[show spareB ⟨true,true,true,true,true,true,true,true,true⟩ _ _ _ _ _ _ _ _ _ _ _ _ _ _=true from by unfold spareB;rw[e_prev,e_next,e_key,e_old,e_new,e_coord,e_mem];rfl]
               exact spare_run x s _ w hw (orc:=[.b false,.b false,.b false,.b false,.b false,.b false,.b true]) (cs:=[cI 13 x.prev false,cI 21 x.next false,cS 30 x.key false,cV 39 x.oh x.od false,cV 49 x.nh x.nd false,cI 59 x.coord false,cI 69 ((s.mem.2.1:Nat):Int) true]) (by kernel_rfl) fun β w=>conds_cons (cI_ok e_prev) (conds_cons (cI_ok e_next) (conds_cons (cS_ok e_key) (conds_cons (cV_ok e_old) (conds_cons (cV_ok e_new) (conds_cons (cI_ok e_coord) (conds_cons (cI_ok e_mem) (conds_nil)))))))
             | false=>
               cases e_loc:(((s.loc.2.1:Nat):Int) != 0) with
               | true=>
                 rw[show spareB ⟨true,true,true,true,true,true,true,true,true⟩ _ _ _ _ _ _ _ _ _ _ _ _ _ _=true from by unfold spareB;rw[e_prev,e_next,e_key,e_old,e_new,e_coord,e_mem,e_loc];rfl]
                 exact spare_run x s _ w hw (orc:=[.b false,.b false,.b false,.b false,.b false,.b false,.b false,.b true]) (cs:=[cI 13 x.prev false,cI 21 x.next false,cS 30 x.key false,cV 39 x.oh x.od false,cV 49 x.nh x.nd false,cI 59 x.coord false,cI 69 ((s.mem.2.1:Nat):Int) false,cI 79 ((s.loc.2.1:Nat):Int) true]) (by kernel_rfl) fun β w=>conds_cons (cI_ok e_prev) (conds_cons (cI_ok e_next) (conds_cons (cS_ok e_key) (conds_cons (cV_ok e_old) (conds_cons (cV_ok e_new) (conds_cons (cI_ok e_coord) (conds_cons (cI_ok e_mem) (conds_cons (cI_ok e_loc) (conds_nil))))))))
               | false=>
                 cases e_lists:(((s.row.2.1:Nat):Int)+(s.dir.2.1:Nat)+(s.dee.2.1:Nat)+(s.pas.2.1:Nat) != 0) with
                 | true=>
                   rw[show spareB ⟨true,true,true,true,true,true,true,true,true⟩ _ _ _ _ _ _ _ _ _ _ _ _ _ _=true from by unfold spareB;rw[e_prev,e_next,e_key,e_old,e_new,e_coord,e_mem,e_loc,e_lists];rfl]
                   exact spare_run x s _ w hw (orc:=[.b false,.b false,.b false,.b false,.b false,.b false,.b false,.b false,.v (.int .i64 (((s.row.2.1:Nat):Int)+(s.dir.2.1:Nat))),.v (.int .i64 (((s.row.2.1:Nat):Int)+(s.dir.2.1:Nat)+(s.dee.2.1:Nat))),.v (.int .i64 (((s.row.2.1:Nat):Int)+(s.dir.2.1:Nat)+(s.dee.2.1:Nat)+(s.pas.2.1:Nat))),.b true]) (cs:=[cI 13 x.prev false,cI 21 x.next false,cS 30 x.key false,cV 39 x.oh x.od false,cV 49 x.nh x.nd false,cI 59 x.coord false,cI 69 ((s.mem.2.1:Nat):Int) false,cI 79 ((s.loc.2.1:Nat):Int) false,cA 89 92 ((s.row.2.1:Nat):Int) ((s.dir.2.1:Nat):Int),cA 93 96 (((s.row.2.1:Nat):Int)+(s.dir.2.1:Nat)) ((s.dee.2.1:Nat):Int),cA 97 100 (((s.row.2.1:Nat):Int)+(s.dir.2.1:Nat)+(s.dee.2.1:Nat)) ((s.pas.2.1:Nat):Int),cI 101 (((s.row.2.1:Nat):Int)+(s.dir.2.1:Nat)+(s.dee.2.1:Nat)+(s.pas.2.1:Nat)) true]) (by kernel_rfl) fun β w=>conds_cons (cI_ok e_prev) (conds_cons (cI_ok e_next) (conds_cons (cS_ok e_key) (conds_cons (cV_ok e_old) (conds_cons (cV_ok e_new) (conds_cons (cI_ok e_coord) (conds_cons (cI_ok e_mem) (conds_cons (cI_ok e_loc) (conds_cons (cA_ok (by omega)) (conds_cons (cA_ok (by omega)) (conds_cons (cA_ok (by omega)) (conds_cons (cI_ok e_lists) (conds_nil))))))))))))
                 | false=>
                   rw[show spareB ⟨true,true,true,true,true,true,true,true,true⟩ _ _ _ _ _ _ _ _ _ _ _ _ _ _=false from by unfold spareB;rw[e_prev,e_next,e_key,e_old,e_new,e_coord,e_mem,e_loc,e_lists];rfl]
                   exact spare_run x s _ w hw (orc:=[.b false,.b false,.b false,.b false,.b false,.b false,.b false,.b false,.v (.int .i64 (((s.row.2.1:Nat):Int)+(s.dir.2.1:Nat))),.v (.int .i64 (((s.row.2.1:Nat):Int)+(s.dir.2.1:Nat)+(s.dee.2.1:Nat))),.v (.int .i64 (((s.row.2.1:Nat):Int)+(s.dir.2.1:Nat)+(s.dee.2.1:Nat)+(s.pas.2.1:Nat))),.b false]) (cs:=[cI 13 x.prev false,cI 21 x.next false,cS 30 x.key false,cV 39 x.oh x.od false,cV 49 x.nh x.nd false,cI 59 x.coord false,cI 69 ((s.mem.2.1:Nat):Int) false,cI 79 ((s.loc.2.1:Nat):Int) false,cA 89 92 ((s.row.2.1:Nat):Int) ((s.dir.2.1:Nat):Int),cA 93 96 (((s.row.2.1:Nat):Int)+(s.dir.2.1:Nat)) ((s.dee.2.1:Nat):Int),cA 97 100 (((s.row.2.1:Nat):Int)+(s.dir.2.1:Nat)+(s.dee.2.1:Nat)) ((s.pas.2.1:Nat):Int),cI 101 (((s.row.2.1:Nat):Int)+(s.dir.2.1:Nat)+(s.dee.2.1:Nat)+(s.pas.2.1:Nat)) false]) (by kernel_rfl) fun β w=>conds_cons (cI_ok e_prev) (conds_cons (cI_ok e_next) (conds_cons (cS_ok e_key) (conds_cons (cV_ok e_old) (conds_cons (cV_ok e_new) (conds_cons (cI_ok e_coord) (conds_cons (cI_ok e_mem) (conds_cons (cI_ok e_loc) (conds_cons (cA_ok (by omega)) (conds_cons (cA_ok (by omega)) (conds_cons (cA_ok (by omega)) (conds_cons (cI_ok e_lists) (conds_nil))))))))))))
theorem spare_f(x:RecP)(s:Sls)(_:(s.row.2.1:Int)≤90000)(_:(s.dir.2.1:Int)≤90000)(_:(s.dee.2.1:Int)≤90000)(_:(s.pas.2.1:Int)≤90000)(w:World)(hw:∀w,Calls Tryz.prog 140 #[.int .i64 x.kind] w fun e w'=>e= .returned (.agg (BareP.arr ⟨true,true,true,true,true,true,true,true,false⟩))∧Upd Nowhere w w'):
 Calls Tryz.prog 102 #[.agg (x.rv s).cells.toArray] w (BoolP (spareB ⟨true,true,true,true,true,true,true,true,false⟩ x.prev x.next x.key x.oh x.od x.nh x.nd x.coord s.mem.2.1 s.loc.2.1 s.row.2.1 s.dir.2.1 s.dee.2.1 s.pas.2.1) w):=by
 cases e_prev:(x.prev != 0) with
 | true=>
   rw[show spareB ⟨true,true,true,true,true,true,true,true,false⟩ _ _ _ _ _ _ _ _ _ _ _ _ _ _=true from by unfold spareB;rw[e_prev];rfl]
   exact spare_run x s _ w hw (orc:=[.b true]) (cs:=[cI 13 x.prev true]) (by kernel_rfl) fun β w=>conds_cons (cI_ok e_prev) (conds_nil)
 | false=>
   cases e_next:(x.next != 0) with
   | true=>
     rw[show spareB ⟨true,true,true,true,true,true,true,true,false⟩ _ _ _ _ _ _ _ _ _ _ _ _ _ _=true from by unfold spareB;rw[e_prev,e_next];rfl]
     exact spare_run x s _ w hw (orc:=[.b false,.b true]) (cs:=[cI 13 x.prev false,cI 21 x.next true]) (by kernel_rfl) fun β w=>conds_cons (cI_ok e_prev) (conds_cons (cI_ok e_next) (conds_nil))
   | false=>
     cases e_key:(x.key != []) with
     | true=>
       rw[show spareB ⟨true,true,true,true,true,true,true,true,false⟩ _ _ _ _ _ _ _ _ _ _ _ _ _ _=true from by unfold spareB;rw[e_prev,e_next,e_key];rfl]
       exact spare_run x s _ w hw (orc:=[.b false,.b false,.b true]) (cs:=[cI 13 x.prev false,cI 21 x.next false,cS 30 x.key true]) (by kernel_rfl) fun β w=>conds_cons (cI_ok e_prev) (conds_cons (cI_ok e_next) (conds_cons (cS_ok e_key) (conds_nil)))
     | false=>
       cases e_old:(x.oh || (x.od != [])) with
       | true=>
         rw[show spareB ⟨true,true,true,true,true,true,true,true,false⟩ _ _ _ _ _ _ _ _ _ _ _ _ _ _=true from by unfold spareB;rw[e_prev,e_next,e_key,e_old];rfl]
         exact spare_run x s _ w hw (orc:=[.b false,.b false,.b false,.b true]) (cs:=[cI 13 x.prev false,cI 21 x.next false,cS 30 x.key false,cV 39 x.oh x.od true]) (by kernel_rfl) fun β w=>conds_cons (cI_ok e_prev) (conds_cons (cI_ok e_next) (conds_cons (cS_ok e_key) (conds_cons (cV_ok e_old) (conds_nil))))
       | false=>
         cases e_new:(x.nh || (x.nd != [])) with
         | true=>
           rw[show spareB ⟨true,true,true,true,true,true,true,true,false⟩ _ _ _ _ _ _ _ _ _ _ _ _ _ _=true from by unfold spareB;rw[e_prev,e_next,e_key,e_old,e_new];rfl]
           exact spare_run x s _ w hw (orc:=[.b false,.b false,.b false,.b false,.b true]) (cs:=[cI 13 x.prev false,cI 21 x.next false,cS 30 x.key false,cV 39 x.oh x.od false,cV 49 x.nh x.nd true]) (by kernel_rfl) fun β w=>conds_cons (cI_ok e_prev) (conds_cons (cI_ok e_next) (conds_cons (cS_ok e_key) (conds_cons (cV_ok e_old) (conds_cons (cV_ok e_new) (conds_nil)))))
         | false=>
           cases e_coord:(x.coord != 0) with
           | true=>
             rw[show spareB ⟨true,true,true,true,true,true,true,true,false⟩ _ _ _ _ _ _ _ _ _ _ _ _ _ _=true from by unfold spareB;rw[e_prev,e_next,e_key,e_old,e_new,e_coord];rfl]
             exact spare_run x s _ w hw (orc:=[.b false,.b false,.b false,.b false,.b false,.b true]) (cs:=[cI 13 x.prev false,cI 21 x.next false,cS 30 x.key false,cV 39 x.oh x.od false,cV 49 x.nh x.nd false,cI 59 x.coord true]) (by kernel_rfl) fun β w=>conds_cons (cI_ok e_prev) (conds_cons (cI_ok e_next) (conds_cons (cS_ok e_key) (conds_cons (cV_ok e_old) (conds_cons (cV_ok e_new) (conds_cons (cI_ok e_coord) (conds_nil))))))
           | false=>
             cases e_mem:(((s.mem.2.1:Nat):Int) != 0) with
             | true=>
               rw[show spareB ⟨true,true,true,true,true,true,true,true,false⟩ _ _ _ _ _ _ _ _ _ _ _ _ _ _=true from by unfold spareB;rw[e_prev,e_next,e_key,e_old,e_new,e_coord,e_mem];rfl]
               exact spare_run x s _ w hw (orc:=[.b false,.b false,.b false,.b false,.b false,.b false,.b true]) (cs:=[cI 13 x.prev false,cI 21 x.next false,cS 30 x.key false,cV 39 x.oh x.od false,cV 49 x.nh x.nd false,cI 59 x.coord false,cI 69 ((s.mem.2.1:Nat):Int) true]) (by kernel_rfl) fun β w=>conds_cons (cI_ok e_prev) (conds_cons (cI_ok e_next) (conds_cons (cS_ok e_key) (conds_cons (cV_ok e_old) (conds_cons (cV_ok e_new) (conds_cons (cI_ok e_coord) (conds_cons (cI_ok e_mem) (conds_nil)))))))
             | false=>
               cases e_loc:(((s.loc.2.1:Nat):Int) != 0) with
               | true=>
                 rw[show spareB ⟨true,true,true,true,true,true,true,true,false⟩ _ _ _ _ _ _ _ _ _ _ _ _ _ _=true from by unfold spareB;rw[e_prev,e_next,e_key,e_old,e_new,e_coord,e_mem,e_loc];rfl]
                 exact spare_run x s _ w hw (orc:=[.b false,.b false,.b false,.b false,.b false,.b false,.b false,.b true]) (cs:=[cI 13 x.prev false,cI 21 x.next false,cS 30 x.key false,cV 39 x.oh x.od false,cV 49 x.nh x.nd false,cI 59 x.coord false,cI 69 ((s.mem.2.1:Nat):Int) false,cI 79 ((s.loc.2.1:Nat):Int) true]) (by kernel_rfl) fun β w=>conds_cons (cI_ok e_prev) (conds_cons (cI_ok e_next) (conds_cons (cS_ok e_key) (conds_cons (cV_ok e_old) (conds_cons (cV_ok e_new) (conds_cons (cI_ok e_coord) (conds_cons (cI_ok e_mem) (conds_cons (cI_ok e_loc) (conds_nil))))))))
               | false=>
                 rw[show spareB ⟨true,true,true,true,true,true,true,true,false⟩ _ _ _ _ _ _ _ _ _ _ _ _ _ _=false from by unfold spareB;rw[e_prev,e_next,e_key,e_old,e_new,e_coord,e_mem,e_loc];rfl]
                 exact spare_run x s _ w hw (orc:=[.b false,.b false,.b false,.b false,.b false,.b false,.b false,.b false]) (cs:=[cI 13 x.prev false,cI 21 x.next false,cS 30 x.key false,cV 39 x.oh x.od false,cV 49 x.nh x.nd false,cI 59 x.coord false,cI 69 ((s.mem.2.1:Nat):Int) false,cI 79 ((s.loc.2.1:Nat):Int) false]) (by kernel_rfl) fun β w=>conds_cons (cI_ok e_prev) (conds_cons (cI_ok e_next) (conds_cons (cS_ok e_key) (conds_cons (cV_ok e_old) (conds_cons (cV_ok e_new) (conds_cons (cI_ok e_coord) (conds_cons (cI_ok e_mem) (conds_cons (cI_ok e_loc) (conds_nil))))))))
theorem spare_g(x:RecP)(s:Sls)(h3:(s.row.2.1:Int)≤90000)(h4:(s.dir.2.1:Int)≤90000)(h5:(s.dee.2.1:Int)≤90000)(h6:(s.pas.2.1:Int)≤90000)(w:World)(hw:∀w,Calls Tryz.prog 140 #[.int .i64 x.kind] w fun e w'=>e= .returned (.agg (BareP.arr ⟨true,true,true,true,true,true,false,true,true⟩))∧Upd Nowhere w w'):
 Calls Tryz.prog 102 #[.agg (x.rv s).cells.toArray] w (BoolP (spareB ⟨true,true,true,true,true,true,false,true,true⟩ x.prev x.next x.key x.oh x.od x.nh x.nd x.coord s.mem.2.1 s.loc.2.1 s.row.2.1 s.dir.2.1 s.dee.2.1 s.pas.2.1) w):=by
 cases e_prev:(x.prev != 0) with
 | true=>
   rw[show spareB ⟨true,true,true,true,true,true,false,true,true⟩ _ _ _ _ _ _ _ _ _ _ _ _ _ _=true from by unfold spareB;rw[e_prev];rfl]
   exact spare_run x s _ w hw (orc:=[.b true]) (cs:=[cI 13 x.prev true]) (by kernel_rfl) fun β w=>conds_cons (cI_ok e_prev) (conds_nil)
 | false=>
   cases e_next:(x.next != 0) with
   | true=>
     rw[show spareB ⟨true,true,true,true,true,true,false,true,true⟩ _ _ _ _ _ _ _ _ _ _ _ _ _ _=true from by unfold spareB;rw[e_prev,e_next];rfl]
     exact spare_run x s _ w hw (orc:=[.b false,.b true]) (cs:=[cI 13 x.prev false,cI 21 x.next true]) (by kernel_rfl) fun β w=>conds_cons (cI_ok e_prev) (conds_cons (cI_ok e_next) (conds_nil))
   | false=>
     cases e_key:(x.key != []) with
     | true=>
       rw[show spareB ⟨true,true,true,true,true,true,false,true,true⟩ _ _ _ _ _ _ _ _ _ _ _ _ _ _=true from by unfold spareB;rw[e_prev,e_next,e_key];rfl]
       exact spare_run x s _ w hw (orc:=[.b false,.b false,.b true]) (cs:=[cI 13 x.prev false,cI 21 x.next false,cS 30 x.key true]) (by kernel_rfl) fun β w=>conds_cons (cI_ok e_prev) (conds_cons (cI_ok e_next) (conds_cons (cS_ok e_key) (conds_nil)))
     | false=>
       cases e_old:(x.oh || (x.od != [])) with
       | true=>
         rw[show spareB ⟨true,true,true,true,true,true,false,true,true⟩ _ _ _ _ _ _ _ _ _ _ _ _ _ _=true from by unfold spareB;rw[e_prev,e_next,e_key,e_old];rfl]
         exact spare_run x s _ w hw (orc:=[.b false,.b false,.b false,.b true]) (cs:=[cI 13 x.prev false,cI 21 x.next false,cS 30 x.key false,cV 39 x.oh x.od true]) (by kernel_rfl) fun β w=>conds_cons (cI_ok e_prev) (conds_cons (cI_ok e_next) (conds_cons (cS_ok e_key) (conds_cons (cV_ok e_old) (conds_nil))))
       | false=>
         cases e_new:(x.nh || (x.nd != [])) with
         | true=>
           rw[show spareB ⟨true,true,true,true,true,true,false,true,true⟩ _ _ _ _ _ _ _ _ _ _ _ _ _ _=true from by unfold spareB;rw[e_prev,e_next,e_key,e_old,e_new];rfl]
           exact spare_run x s _ w hw (orc:=[.b false,.b false,.b false,.b false,.b true]) (cs:=[cI 13 x.prev false,cI 21 x.next false,cS 30 x.key false,cV 39 x.oh x.od false,cV 49 x.nh x.nd true]) (by kernel_rfl) fun β w=>conds_cons (cI_ok e_prev) (conds_cons (cI_ok e_next) (conds_cons (cS_ok e_key) (conds_cons (cV_ok e_old) (conds_cons (cV_ok e_new) (conds_nil)))))
         | false=>
           cases e_coord:(x.coord != 0) with
           | true=>
             rw[show spareB ⟨true,true,true,true,true,true,false,true,true⟩ _ _ _ _ _ _ _ _ _ _ _ _ _ _=true from by unfold spareB;rw[e_prev,e_next,e_key,e_old,e_new,e_coord];rfl]
             exact spare_run x s _ w hw (orc:=[.b false,.b false,.b false,.b false,.b false,.b true]) (cs:=[cI 13 x.prev false,cI 21 x.next false,cS 30 x.key false,cV 39 x.oh x.od false,cV 49 x.nh x.nd false,cI 59 x.coord true]) (by kernel_rfl) fun β w=>conds_cons (cI_ok e_prev) (conds_cons (cI_ok e_next) (conds_cons (cS_ok e_key) (conds_cons (cV_ok e_old) (conds_cons (cV_ok e_new) (conds_cons (cI_ok e_coord) (conds_nil))))))
           | false=>
             cases e_loc:(((s.loc.2.1:Nat):Int) != 0) with
             | true=>
               rw[show spareB ⟨true,true,true,true,true,true,false,true,true⟩ _ _ _ _ _ _ _ _ _ _ _ _ _ _=true from by unfold spareB;rw[e_prev,e_next,e_key,e_old,e_new,e_coord,e_loc];rfl]
               exact spare_run x s _ w hw (orc:=[.b false,.b false,.b false,.b false,.b false,.b false,.b true]) (cs:=[cI 13 x.prev false,cI 21 x.next false,cS 30 x.key false,cV 39 x.oh x.od false,cV 49 x.nh x.nd false,cI 59 x.coord false,cI 79 ((s.loc.2.1:Nat):Int) true]) (by kernel_rfl) fun β w=>conds_cons (cI_ok e_prev) (conds_cons (cI_ok e_next) (conds_cons (cS_ok e_key) (conds_cons (cV_ok e_old) (conds_cons (cV_ok e_new) (conds_cons (cI_ok e_coord) (conds_cons (cI_ok e_loc) (conds_nil)))))))
             | false=>
               cases e_lists:(((s.row.2.1:Nat):Int)+(s.dir.2.1:Nat)+(s.dee.2.1:Nat)+(s.pas.2.1:Nat) != 0) with
               | true=>
                 rw[show spareB ⟨true,true,true,true,true,true,false,true,true⟩ _ _ _ _ _ _ _ _ _ _ _ _ _ _=true from by unfold spareB;rw[e_prev,e_next,e_key,e_old,e_new,e_coord,e_loc,e_lists];rfl]
                 exact spare_run x s _ w hw (orc:=[.b false,.b false,.b false,.b false,.b false,.b false,.b false,.v (.int .i64 (((s.row.2.1:Nat):Int)+(s.dir.2.1:Nat))),.v (.int .i64 (((s.row.2.1:Nat):Int)+(s.dir.2.1:Nat)+(s.dee.2.1:Nat))),.v (.int .i64 (((s.row.2.1:Nat):Int)+(s.dir.2.1:Nat)+(s.dee.2.1:Nat)+(s.pas.2.1:Nat))),.b true]) (cs:=[cI 13 x.prev false,cI 21 x.next false,cS 30 x.key false,cV 39 x.oh x.od false,cV 49 x.nh x.nd false,cI 59 x.coord false,cI 79 ((s.loc.2.1:Nat):Int) false,cA 89 92 ((s.row.2.1:Nat):Int) ((s.dir.2.1:Nat):Int),cA 93 96 (((s.row.2.1:Nat):Int)+(s.dir.2.1:Nat)) ((s.dee.2.1:Nat):Int),cA 97 100 (((s.row.2.1:Nat):Int)+(s.dir.2.1:Nat)+(s.dee.2.1:Nat)) ((s.pas.2.1:Nat):Int),cI 101 (((s.row.2.1:Nat):Int)+(s.dir.2.1:Nat)+(s.dee.2.1:Nat)+(s.pas.2.1:Nat)) true]) (by kernel_rfl) fun β w=>conds_cons (cI_ok e_prev) (conds_cons (cI_ok e_next) (conds_cons (cS_ok e_key) (conds_cons (cV_ok e_old) (conds_cons (cV_ok e_new) (conds_cons (cI_ok e_coord) (conds_cons (cI_ok e_loc) (conds_cons (cA_ok (by omega)) (conds_cons (cA_ok (by omega)) (conds_cons (cA_ok (by omega)) (conds_cons (cI_ok e_lists) (conds_nil)))))))))))
               | false=>
                 rw[show spareB ⟨true,true,true,true,true,true,false,true,true⟩ _ _ _ _ _ _ _ _ _ _ _ _ _ _=false from by unfold spareB;rw[e_prev,e_next,e_key,e_old,e_new,e_coord,e_loc,e_lists];rfl]
                 exact spare_run x s _ w hw (orc:=[.b false,.b false,.b false,.b false,.b false,.b false,.b false,.v (.int .i64 (((s.row.2.1:Nat):Int)+(s.dir.2.1:Nat))),.v (.int .i64 (((s.row.2.1:Nat):Int)+(s.dir.2.1:Nat)+(s.dee.2.1:Nat))),.v (.int .i64 (((s.row.2.1:Nat):Int)+(s.dir.2.1:Nat)+(s.dee.2.1:Nat)+(s.pas.2.1:Nat))),.b false]) (cs:=[cI 13 x.prev false,cI 21 x.next false,cS 30 x.key false,cV 39 x.oh x.od false,cV 49 x.nh x.nd false,cI 59 x.coord false,cI 79 ((s.loc.2.1:Nat):Int) false,cA 89 92 ((s.row.2.1:Nat):Int) ((s.dir.2.1:Nat):Int),cA 93 96 (((s.row.2.1:Nat):Int)+(s.dir.2.1:Nat)) ((s.dee.2.1:Nat):Int),cA 97 100 (((s.row.2.1:Nat):Int)+(s.dir.2.1:Nat)+(s.dee.2.1:Nat)) ((s.pas.2.1:Nat):Int),cI 101 (((s.row.2.1:Nat):Int)+(s.dir.2.1:Nat)+(s.dee.2.1:Nat)+(s.pas.2.1:Nat)) false]) (by kernel_rfl) fun β w=>conds_cons (cI_ok e_prev) (conds_cons (cI_ok e_next) (conds_cons (cS_ok e_key) (conds_cons (cV_ok e_old) (conds_cons (cV_ok e_new) (conds_cons (cI_ok e_coord) (conds_cons (cI_ok e_loc) (conds_cons (cA_ok (by omega)) (conds_cons (cA_ok (by omega)) (conds_cons (cA_ok (by omega)) (conds_cons (cI_ok e_lists) (conds_nil)))))))))))
end Go.Proofs.YtljmmkjdlcfkpaaGreatDoor
