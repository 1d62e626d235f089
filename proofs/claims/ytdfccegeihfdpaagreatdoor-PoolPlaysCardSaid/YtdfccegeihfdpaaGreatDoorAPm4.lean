/-
  The log and all below it: part 4 of 10 (merged by mergew.py).
-/
import Derived.Test.YtdfccegeihfdpaaGreatDoorAWm3
import Derived.Deep.WholeRow
import Derived.Great.BuildSlice
set_option maxRecDepth 100000
set_option maxHeartbeats 4000000
namespace Go.Proofs.YtdfccegeihfdpaaGreatDoor
open Go Go.RowKit
structure RecV where
 kind:Int
 tx:Int
 prev:Int
 next:Int
 key:Bs
 oh:Bool
 od:Bs
 nh:Bool
 nd:Bs
 coord:Int
 mem:SlT
 loc:SlT
 row:SlT
 dir:SlT
 dee:SlT
 pas:SlT
def RecV.val(r:RecV):Value:= .agg #[.int .i64 r.kind,.int .i64 r.tx,.int .i64 r.prev,.int .i64 r.next,strV r.key,.bool r.oh,strV r.od,.bool r.nh,strV r.nd,.int .i64 r.coord,slV r.mem,slV r.loc,slV r.row,slV r.dir,slV r.dee,slV r.pas]
def RecV.cells(r:RecV):List Value:=[.int .i64 r.kind,.int .i64 r.tx,.int .i64 r.prev,.int .i64 r.next,strV r.key,.bool r.oh,strV r.od,.bool r.nh,strV r.nd,.int .i64 r.coord,slV r.mem,slV r.loc,slV r.row,slV r.dir,slV r.dee,slV r.pas]
structure ItV where
 rc:RecV
 body:SlT
 pos:Nat
def itemC(x:ItV):List Value:=x.rc.cells++[slV x.body,.int .i64 (x.pos:Nat)]
theorem itemC_len(x:ItV):(itemC x).length=18:=rfl
theorem item_row:RowK Tryz.prog 118 148 itemC 18:=
 ⟨Tryz.underlying118,⟨.agg #[.int .i64 0,.int .i64 0,.int .i64 0,.int .i64 0,strV [],.bool false,strV [],.bool false,strV [],.int .i64 0,.slice none 0 0,.slice none 0 0,.slice none 0 0,.slice none 0 0,.slice none 0 0,.slice none 0 0,.slice none 0 0,.int .i64 0],280,by kernel_rfl,rfl,by omega⟩,fun _=>rfl,fun a u hu=>by
  simp only[itemC,RecV.cells,qma,qmc,List.not_mem_nil,or_false]at hu
  rcases hu with(rfl | rfl | rfl | rfl | rfl | rfl | rfl | rfl | rfl | rfl | rfl | rfl | rfl | rfl | rfl | rfl) | (rfl | rfl)<;>rfl,by omega⟩
structure LogS where
 dk:DiskS
 count:Nat
 m:MastS
 items:List (Bs×Nat)
 forced:Nat
 next:Nat
 forces:Nat
 down:Bool
def logTyM(b:Bool):Obj→Bool
 | .cells _ t _=>t == 120 || t == 148 || t == 107 || t == 111
 | .map .. =>b
 | _=>false
abbrev logTy:Obj→Bool:=logTyM true
def LogF(bz:Nat)(w:World)(k:Nat):Prop:=bz≤k∧∃o,w.heap[k]? =some o∧logTyM (decide (k<bz+3)) o=true
theorem LogF.upd{bz:Nat}{F:Nat→Prop}{w w':World}{k:Nat}(h:LogF bz w' k)(hk:k<w.heap.size)(hu:Upd F w w')(hF:¬F k):LogF bz w k:=by
 obtain⟨h0,o,h1,h2⟩:=h;exact⟨h0,o,(hu.block k hk hF)▸h1,h2⟩
theorem Upd.logs{bz:Nat}{a b c:World}(h:Upd (LogF bz a) a b)(h':Upd (LogF bz b) b c):Upd (LogF bz a) a c:=
 h.trans h' fun _ hk hb=>Classical.byContradiction fun hn=>hn (hb.upd hk h hn)
structure LogAt(bz:Nat)(w:World)(l:Nat)(p:DkP)(S:LogS):Prop where
 ex:∃(A:Option Addr) (c:Nat) (its:List ItV),Blk w l 120 #[.pointer (some ⟨p.d,0,none⟩),.int .i64 (S.count:Nat),.int .i64 S.m.gen,.int .i64 S.m.inc,.int .i64 S.m.first,.int .i64 S.m.lsn,.int .i64 S.m.check,.slice A its.length c,.int .i64 (S.forced:Nat),.int .i64 (S.next:Nat),.int .i64 (S.forces:Nat),.bool S.down]∧
  OwnR 148 itemC 18 bz w (.slice A its.length c) its∧its.length=S.items.length∧
  ∀(i:Nat) (x:ItV) (b:Bs) (q:Nat),its[i]? =some x→S.items[i]? =some (b,q)→BytesE w (slV x.body) b∧(∀k,(slV x.body).ownBlock=some k→U8 w k)∧x.pos=q
 dk:DiskAt w p S.dk
 hl:bz≤l
 pf:∀k,p.foot k→bz≤k
 pm:p.ms<bz+3∧p.mn<bz+3
 hz:0<bz
section
variable {w w':World} {l:Nat} {p:DkP} {S:LogS} {F:Nat→Prop} {bz:Nat}
theorem DiskAt.logF{S:DiskS}(h:DiskAt w p S)(pf:∀k,p.foot k→bz≤k)(pm:p.ms<bz+3∧p.mn<bz+3):∀k,p.foot k→LogF bz w k:=by
 intro k hf;refine⟨pf k hf,?_⟩
 rcases hf with rfl | rfl | rfl | hk
 ·exact⟨_,h.blk,rfl⟩
 ·obtain⟨es,ck,h1,_⟩:=h.syn;exact⟨_,h1,decide_eq_true pm.1⟩
 ·obtain⟨es,ck,h1,_⟩:=h.now;exact⟨_,h1,decide_eq_true pm.2⟩
 ·obtain⟨cs,hc⟩:=h.pend.is_cells hk;exact⟨_,hc,rfl⟩
theorem LogAt.box(h:LogAt bz w l p S):LogF bz w l:=by
 obtain⟨_,_,_,hb,_⟩:=h.ex;exact⟨h.hl,_,hb,rfl⟩
theorem LogAt.lt(h:LogAt bz w l p S):l<w.heap.size:=by
 obtain⟨_,_,_,hb,_⟩:=h.ex;exact hb.lt
theorem LogAt.upd(h:LogAt bz w l p S)(hu:Upd F w w')(hF:∀k,F k→¬LogF bz w k)(h8:NoU8 F w):LogAt bz w' l p S:=by
 obtain⟨A,c,its,hb,hO,hl,hi⟩:=h.ex;refine⟨⟨A,c,its,hb.upd hu fun e=>hF _ e h.box,hO.upd hu fun k hk e=> ?_,hl,fun i x b q hx hq=> ?_⟩,h.dk.upd hu fun k hk e=>hF k e (h.dk.logF h.pf h.pm k hk),h.hl,h.pf,h.pm,h.hz⟩
 ·obtain⟨cs,hc⟩:=hO.is_cells hk;exact hF k e ⟨hO.new k hk,_,hc,rfl⟩
 ·obtain⟨h1,h2,h3⟩:=hi i x b q hx hq;exact⟨h1.upd hu fun k hk e=>h8 k e (h2 k hk),fun k hk=>(h2 k hk).upd hu fun e=>h8 k e (h2 k hk),h3⟩
theorem LogAt.up(h:LogAt bz w l p S)(hu:Upd Nowhere w w'):LogAt bz w' l p S:=h.upd hu (fun _ e=>absurd e id) fun _ e=>absurd e id
theorem LogAt.foot(h:LogAt bz w l p S)(hu:Upd p.foot w w'):Upd (LogF bz w) w w':=hu.mono fun k _ hk=>h.dk.logF h.pf h.pm k hk
theorem LogAt.far(h:LogAt bz w l p S){v':Value}(hn:NewV w p.v v'):∀k,(p.at_ v').foot k→bz≤k:=by
 have hlt:=h.lt;have hl:=h.hl;rintro k (e | e | e | e)
 ·exact h.pf k (.inl e)
 ·exact h.pf k (.inr (.inl e))
 ·exact h.pf k (.inr (.inr (.inl e)))
 ·rcases hn k e with e | e
  ·exact h.pf k (.inr (.inr (.inr e)))
  ·omega
theorem HalfW.logs(hz:0<bz)(hW:HalfW w)(hu:Upd (LogF bz w) w w'):HalfW w':=hW.upd hu fun e=>by have:=e.1;omega
theorem LogAt.disk(h:LogAt bz w l p S){p':DkP}{D:DiskS}(hd:p'.d=p.d)(hm:p'.ms=p.ms∧p'.mn=p.mn)(hu:Upd p.foot w w')(hD:DiskAt w' p' D)(hf:∀k,p'.foot k→bz≤k):LogAt bz w' l p' { S with dk:=D }:=by
 obtain⟨A,c,its,hb,hO,hl,hi⟩:=h.ex;refine⟨⟨A,c,its,?_,hO.upd hu fun k hk e=> ?_,hl,fun i x b q hx hq=> ?_⟩,hD,h.hl,hf,by rw[hm.1,hm.2];exact h.pm,h.hz⟩
 ·rw[hd];refine hb.upd hu fun e=> ?_
  rcases e with e | e | e | e
  ·exact h.dk.blk.ne_ hb (by decide) e.symm
  ·exact h.dk.syn.ne_blk hb e.symm
  ·exact h.dk.now.ne_blk hb e.symm
  ·exact h.dk.pend.blk_ne hb (by decide) e
 ·obtain⟨cs,hc⟩:=hO.is_cells hk
  rcases e with e | e | e | e
  ·subst e;have:=h.dk.blk;unfold Blk at this;rw[hc]at this;injection this with this
   injection this with _ this _
   exact absurd this (by decide)
  ·subst e;exact h.dk.syn.not_cells hc
  ·subst e;exact h.dk.now.not_cells hc
  ·obtain⟨cs2,hc2⟩:=h.dk.pend.is_cells e;rw[hc]at hc2;injection hc2 with this
   injection this with _ this _
   exact absurd this (by decide)
 ·obtain⟨h1,h2,h3⟩:=hi i x b q hx hq;exact⟨h1.upd hu fun k hk e=>h.dk.noU8 k e (h2 k hk),fun k hk=>(h2 k hk).upd hu fun e=>h.dk.noU8 k e (h2 k hk),h3⟩
end
theorem off_ok{bz:Nat}{w:World}{l:Nat}{p:DkP}{S:LogS}(h:LogAt bz w l p S):Calls Tryz.prog 71 #[.pointer (some ⟨l,0,none⟩)] w fun e w'=>e= .returned (.int .i64 (if S.down then 40 else 0))∧w'=w:=by
 obtain⟨A,c,its,hb,_⟩:=h.ex;obtain⟨dk,count,m,items,forced,next,forces,down⟩:=S;have c11:=hb.cell 11;simp only[qA,qZ,qS]at c11;clear hb h
 cases down<;>
  (go_enter Tryz.func71,Tryz.ntmps71
   go_wp2_with fail
   go_ret;exact⟨rfl,rfl⟩)
theorem sector_ok{bz:Nat}{w:World}{l:Nat}{p:DkP}{S:LogS}(h:LogAt bz w l p S)(hc:1≤S.count)(hc2:S.count≤4096)(q:Nat)(hq:q≤4000000000):Calls Tryz.prog 101 #[.pointer (some ⟨l,0,none⟩),.int .i64 (q:Nat)] w fun e w'=>e= .returned (.int .i64 ((2+q % S.count:Nat):Int))∧w'=w:=by
 obtain⟨A,c,its,hb,_⟩:=h.ex;obtain⟨dk,count,m,items,forced,next,forces,down⟩:=S;simp only at hc hc2;have c1:=hb.cell 1;simp only[qA,qZ,qS]at c1;have h0:¬(count:Int)=0:=by omega
 have h0':((count:Int) == 0)=false:=by simpa using h0
 obtain⟨m,hm⟩:∃m:Nat,q % count=m:=⟨_,rfl⟩;have hmI:(q:Int) % (count:Int)=(m:Int):=by omega
 have htm:Int.tmod (q:Int) (count:Int)=(m:Int):=by rw[Int.tmod_eq_emod_of_nonneg (by omega)];exact hmI
 have hml:m<count:=by rw[←hm];exact Nat.mod_lt _ (by omega)
 have hmb:(m:Int)≤4096:=by omega
 simp only[hm];have hcI:(0:Int)<(count:Int):=by omega
 have hcI2:(count:Int)≤4096:=by omega
 have hqI:(q:Int)≤4000000000:=by omega
 clear hb h hm hml hc hc2 hq;go_enter Tryz.func101,Tryz.ntmps101
 go_wp2_with fail
 go_ret;exact⟨by push_cast;rfl,rfl⟩
theorem met_ok{bz:Nat}{w:World}{l:Nat}{p:DkP}{S:LogS}(h:LogAt bz w l p S)(x:Int):Calls Tryz.prog 99 #[.pointer (some ⟨l,0,none⟩),.int .i64 x] w fun e w'=>e= .returned (.int .i64 x)∧LogAt bz w' l p { S with down:=S.down || x == 40 }∧Upd (LogF bz w) w w':=by
 obtain⟨A,c,its,hb,hO,hl,hi⟩:=h.ex;have hbox:=h.box
 have hset:∀d:Bool,LogAt bz (w.setCell ⟨l,11,none⟩ (.bool d)) l p { S with down:=d }∧Upd (LogF bz w) w (w.setCell ⟨l,11,none⟩ (.bool d)):=fun d=>by
  have hu:=Upd.one w l 11 (.bool d);have hne:∀k,U8 w k→¬k=l:=fun k hk e=>hk.ne hb (by decide) e
  refine⟨⟨⟨A,c,its,hb.set_ 11 (.bool d),hO.upd hu fun k hk e=>hO.blk_ne hb (by decide) (e▸hk),hl,fun i x b q hx hq=> ?_⟩,h.dk.upd hu fun k hk e=> ?_,h.hl,h.pf,h.pm,h.hz⟩,hu.mono fun k _ e=>e▸hbox⟩
  ·obtain⟨h1,h2,h3⟩:=hi i x b q hx hq;exact⟨h1.upd hu fun k hk=>hne k (h2 k hk),fun k hk=>(h2 k hk).upd hu (hne k (h2 k hk)),h3⟩
  ·subst e
   rcases hk with e | e | e | e
   ·exact h.dk.blk.ne_ hb (by decide) e.symm
   ·exact h.dk.syn.ne_blk hb e.symm
   ·exact h.dk.now.ne_blk hb e.symm
   ·exact h.dk.pend.blk_ne hb (by decide) e
 obtain⟨dk,count,m,items,forced,next,forces,down⟩:=S;have c11:=hb.cell 11;have f11:=hb.frozen 11;simp only[qA,qZ,qS]at c11;simp only at hset ⊢;have HS:=qh hset;clear hset hb h hO hl hi hbox
 cases down with
 | true=>
   go_enter Tryz.func99,Tryz.ntmps99
   go_wp2_with fail
   go_ret;exact⟨rfl,HS.out true⟩
 | false=>
   by_cases hx:x=40
   ·subst hx;go_enter Tryz.func99,Tryz.ntmps99
    go_wp2_with fail
    go_ret;exact⟨rfl,HS.out true⟩
   ·have hx':(x == 40)=false:=by simpa using hx
    rw[hx'];go_enter Tryz.func99,Tryz.ntmps99
    go_wp2_with fail
    go_ret;exact⟨rfl,HS.out false⟩
section
variable {P:Program} {ops:Array Oper} {Q:Exit→Act→World→Prop} {a:Act} {rest:List Oper} {o:Oper}
theorem wpList_store_new(hg:o.guard=none)(ty:TypeId)(x y:Operand)(ho:o.op= .store ty x y){w:World}{c:Array Value}{cs:List Value}(hx:a.eval x= .pointer (some ⟨w.heap.size,0,none⟩))(hy:a.eval y= .agg cs.toArray)
 (hi:(P.info? ty).map (·.size)=some cs.length) (hs:c.size=cs.length) (h1:∀v∈cs,v.oneCell'=true) (h:wpList P ops Q rest (a.put o.dst undef) (w.alloc (.cells cs.toArray ty))):wpList P ops Q (o::rest) a (w.alloc (.cells c ty)):=by
 refine wpList_plain hg fun K hK=> ?_
 unfold Oper.wp execOp;have hr:=run_storeAt_new (P:=P) w ty c cs.toArray (by simpa using hi) (by simpa using hs) (all_oneCell_toArray h1)
 simp only[ho,hx,hy,Sem.run_bind,Sem.run_pure,hr,Result.andThen_ok];exact hK _ _ h
end
section
variable {P:Program} {ops:Array Oper} {Q:Exit→Act→World→Prop} {a:Act} {o:Oper} {K:Act→World→Prop} {E:Prop}
end
theorem build_item2(r:RecV)(b:SlT)(w:World):(Instr.build 148 #[(0,.agg r.cells.toArray),(1,slV b)]).run Tryz.prog w= .ok (.agg (itemC ⟨r,b,0⟩).toArray) w:=by
 obtain⟨rk,rt,rp,rn,ry,roh,rod,rnh,rnd,rco,rme,rlo,rro,rdi,rde,rpa⟩:=r;exact run_build w _ _ _ (by kernel_rfl)
theorem build_row1(x:ItV)(w:World):(Instr.buildSlice 118 1 #[(0,.agg (itemC x).toArray)]).run Tryz.prog w= .ok (.slice (some ⟨w.heap.size,0,none⟩) 1 1) (w.alloc (.cells (itemC x).toArray 148)):=by
 obtain⟨⟨rk,rt,rp,rn,ry,roh,rod,rnh,rnd,rco,rme,rlo,rro,rdi,rde,rpa⟩,b,q⟩:=x
 kernel_rfl
theorem load_new(ty:TypeId)(d:TypeDesc)(hu:Tryz.prog.underlying ty=some d)(hd:d.isRow=true){cs:List Value}(hi:(Tryz.prog.info? ty).map (·.size)=some cs.length)(w:World):(Instr.loadAt ty (.pointer (some ⟨w.heap.size,0,none⟩))).run Tryz.prog (w.alloc (.cells cs.toArray ty))= .ok (.agg cs.toArray) (w.alloc (.cells cs.toArray ty)):=
 run_loadAt_mid _ _ _ _ _ _ (fun j v hv=>by rw[Nat.zero_add,(Blk.new w ty cs.toArray).cell j,qA];exact hv) hu hd hi
theorem Els.range{α:Type}{sz:Nat}{cells:α→List Value}{w:World}{b off n c:Nat}{L:List α}(h:Els sz cells w (.slice (some ⟨b,off,none⟩) n c) L)(hc:∀a,(cells a).length=sz){i:Nat}{a:α}(ha:L[i]? =some a):w.rangeAt b (off+i * sz) (cells a):=by
 obtain⟨b',off',c',he,_,hq⟩:=h.get hc ha;injection he with he1 _ _
 injection he1 with he1
 injection he1 with h1 h2 _
 subst h1 h2;intro j v hv;have hj:j<sz:=by rw[←hc a];exact(qei.1 hv).1
 rw[hq j hj,hv]
theorem item_size:(Tryz.prog.info? 148).map (·.size)=some 18:=by kernel_rfl
theorem rec_size:(Tryz.prog.info? 39).map (·.size)=some 16:=by kernel_rfl
theorem itemC_one(x:ItV):∀v∈itemC x,v.oneCell'=true:=item_row.one x
theorem RecV.cells_one(r:RecV):∀v∈r.cells,v.oneCell'=true:=fun v hv=>item_row.one ⟨r,(none,0,0),0⟩ v (List.mem_append_left _ hv)
theorem RecV.cells_len(r:RecV):r.cells.length=16:=rfl
theorem body_row:RowK Tryz.prog 132 143 slC 1:=
 ⟨Tryz.underlying132,⟨.slice none 0 0,24,by kernel_rfl,rfl,by omega⟩,fun _=>rfl,fun a u hu=>by
  simp only[slC,qmc,List.not_mem_nil,or_false]at hu;subst hu;rfl,by omega⟩
def LogS.pendB(S:LogS):List Bs:=(S.items.drop S.forced).map (·.1)
def BodV(w:World)(vs:List SlT)(bs:List Bs):Prop:=
 vs.length=bs.length∧∀(i:Nat) (t:SlT) (b:Bs),vs[i]? =some t→bs[i]? =some b→BytesE w (slV t) b∧∀k,(slV t).ownBlock=some k→U8 w k
theorem BodV.upd{F:Nat→Prop}{w w':World}{vs:List SlT}{bs:List Bs}(h:BodV w vs bs)(hu:Upd F w w')(h8:NoU8 F w):BodV w' vs bs:=
 ⟨h.1,fun i t b ht hb=>by
  obtain⟨h1,h2⟩:=h.2 i t b ht hb;exact⟨h1.upd hu fun k hk e=>h8 k e (h2 k hk),fun k hk=>(h2 k hk).upd hu fun e=>h8 k e (h2 k hk)⟩⟩
theorem BodV.snoc{w:World}{vs:List SlT}{bs:List Bs}(h:BodV w vs bs){t:SlT}{b:Bs}(h1:BytesE w (slV t) b)(h2:∀k,(slV t).ownBlock=some k→U8 w k):BodV w (vs++[t]) (bs++[b]):=by
 refine⟨by rw[qla,qla,h.1];rfl,fun i t' b' ht hb=> ?_⟩
 by_cases hi:i<vs.length
 ·rw[qal hi]at ht;rw[qal (by rw[←h.1];exact hi)]at hb
  exact h.2 i t' b' ht hb
 ·rw[qar (by omega)]at ht
  rw[qar (by rw[←h.1];omega),←h.1]at hb
  obtain⟨j,hj⟩:∃j,i - vs.length=j:=⟨_,rfl⟩;rw[hj]at ht hb
  cases j with
  | zero=>
    simp only[qZ,Option.some.injEq]at ht hb;subst ht hb;exact⟨h1,h2⟩
  | succ j=>simp at ht
theorem BodV.bodies{w:World}{A:Option Addr}{n c B:Nat}{vs:List SlT}{bs:List Bs}(h:BodV w vs bs)(hO:OwnR 143 slC 1 B w (.slice A n c) vs):BodiesE w (.slice A n c) bs:=
 ⟨vs,h.1,hO.els,fun i t b ht hb=>(h.2 i t b ht hb).1⟩
theorem bodies_ok{bz:Nat}{w:World}{l:Nat}{p:DkP}{S:LogS}(h:LogAt bz w l p S)(hf:S.forced≤S.items.length)(hn:S.items.length≤90000):
 Calls Tryz.prog 73 #[.pointer (some ⟨l,0,none⟩)] w fun e w'=>∃(A:Option Addr) (c:Nat) (vs:List SlT),e= .returned (.slice A vs.length c)∧OwnR 143 slC 1 w.heap.size w' (.slice A vs.length c) vs∧BodV w' vs S.pendB∧Upd Nowhere w w':=by
 obtain⟨A,c,its,hb,hO,hl,hi⟩:=h.ex;obtain⟨dk,count,m,items,forced,next,forces,down⟩:=S;simp only at hb hl hi hf hn
 have hBV:BodV w ((its.drop forced).map (·.body)) ((items.drop forced).map (·.1)):=by
  refine⟨by simp[hl],fun i t b ht hb=> ?_⟩
  rw[qgm,List.getElem?_drop]at ht hb;obtain⟨x,hx,rfl⟩:=Option.map_eq_some_iff.1 ht;obtain⟨⟨b,q⟩,hy,rfl⟩:=Option.map_eq_some_iff.1 hb;obtain⟨h1,h2,_⟩:=hi _ x b q hx hy;exact⟨h1,h2⟩
 obtain⟨n,hnn⟩:∃n,its.length=n:=⟨_,rfl⟩
 have hcap:its.length≤c:=by
  obtain⟨_,_,hcv,hcap⟩:=hO.cap;injection hcv with _ _ hcv
  omega
 rw[hnn]at hb hO hcap;have c7:=hb.cell 7;have c8:=hb.cell 8;simp only[qA,qZ,qS]at c7 c8;have hnI:(n:Int)≤90000:=by omega
 have hcI:(n:Int)≤(c:Int):=by omega
 have hfI:(forced:Int)≤(n:Int):=by omega
 have hfc:forced≤n:=by omega
 obtain⟨N,hN⟩:∃N,n - forced=N:=⟨_,rfl⟩;have hNI:(n:Int) - (forced:Int)=(N:Int):=by omega
 have HBV:=qh hBV;have HO:=qh hO;have HNN:=qh hnn;have HN:=qh hN;have HC:=qh hcap;have HU0:=qh (Upd.refl Nowhere w);clear hb hl hi hf hn h hBV hO hnn hcap
 rcases Nat.eq_zero_or_pos N with h0 | h0
 ·have hpl:((its.drop forced).map (·.body))=[]:=by
   rw[List.map_eq_nil_iff];exact List.drop_eq_nil_of_le (by have:=HNN.out;have:=HN.out;omega)
  subst h0;have HPL:=qh hpl;have hfn:forced=n:=by have:=HN.out;omega
  clear hpl;subst hfn;by_cases hcf:c=forced
  all_goals
   (try have hcf':¬forced=c:=fun e=>hcf e.symm)
   go_enter Tryz.func73,Tryz.ntmps73
   go_wp2_with fail
   go_region
   all_goals
    go_wp2_with fail
    go_loopw [3,16] (fun s3 s16 wr=>s3= .slice none 0 0∧s16= .int .i64 0∧Upd Nowhere w wr) (fun _ _ _=>0)
    case atStart=>exact⟨rfl,rfl,HU0.out.drew⟩
    case round=>
     obtain⟨rfl,rfl,hU⟩:=hrel;have HU:=qh hU;clear hU;go_wp2_with fail
     go_ret;refine⟨none,0,[],rfl,OwnR.nil _ _ _ _ _,?_,HU.out⟩;have:=HBV.out.upd HU.out fun _ e=>absurd e id
     rw[HPL.out]at this;exact this
 ·obtain⟨g,rfl,_⟩:=HO.out.addr (by intro e;have:=HNN.out;rw[e]at this;simp at this;have:=HN.out;omega)
  have hcf:¬c=forced:=by have:=HC.out;have:=HN.out;omega
  have hcf':¬forced=c:=fun e=>hcf e.symm
  have hE:Els 18 itemC w (.slice (some ⟨g,forced * 18,none⟩) N (c - forced)) ((its.drop forced).take N):=by
   have:=Els.part (c':=c - forced) itemC_len HO.out.els forced N (by have:=HN.out;have:=HNN.out;omega) (by have:=HC.out;have:=HN.out;omega) (HO.out.lt rfl)
   rwa [Nat.zero_add]at this
  have htk:(its.drop forced).take N=its.drop forced:=List.take_of_length_le (by rw[qld,HNN.out];have:=HN.out;omega)
  rw[htk]at hE;have HE:=qh hE;obtain⟨P,hP⟩:∃P,its.drop forced=P:=⟨_,rfl⟩;rw[hP]at hE;have hPl:P.length=N:=by rw[←hP,qld,HNN.out];exact HN.out
  have HE:=qh hE;have HP:=qh hP;have HPL:=qh hPl;clear hE htk hP hPl;have hNb:(N:Int)≤90000:=by omega
  go_enter Tryz.func73,Tryz.ntmps73
  go_wp2_with fail
  go_region
  go_wp2_with fail
  clear hN;go_loopw [3,16] (fun s3 s16 wr=>∃(k:Nat) (A:Option Addr) (c:Nat),s16= .int .i64 (k:Int)∧k≤N∧s3= .slice A k c∧OwnR 143 slC 1 w.heap.size wr s3 ((P.take k).map (·.body))∧Upd Nowhere w wr) (fun _ s16 _=>N - (intOf s16).toNat)
  case atStart=>exact⟨0,none,0,rfl,by omega,rfl,OwnR.nil _ _ _ _ _,HU0.out.drew⟩
  case round=>
   obtain⟨k,A,c2,rfl,hk,rfl,hO2,hU⟩:=hrel;have HO2:=qh hO2;have HU:=qh hU;by_cases hlt:k<N
   ·obtain⟨x,hx⟩:∃x,P[k]? =some x:=⟨_,qeg (by rw[HPL.out];exact hlt)⟩
    have hE2:=HE.out.upd hU fun _ _=>id
    have hR:=hE2.range itemC_len hx
    have htake:(P.take (k+1)).map (·.body)=(P.take k).map (·.body)++[x.body]:=by
     obtain⟨hk',rfl⟩:=qei.1 hx;rw[←List.take_append_getElem hk',List.map_append];rfl
    have hc16:(itemC x)[16]? =some (.slice x.body.1 x.body.2.1 x.body.2.2):=rfl;have hone:=itemC_one x;have hlen:(itemC x).length=18:=rfl;obtain⟨cs,hcs⟩:∃cs,itemC x=cs:=⟨_,rfl⟩;obtain⟨⟨B1,B2,B3⟩,hB⟩:∃t,x.body=t:=⟨_,rfl⟩;rw[hB]at hc16 htake;rw[hcs]at hc16 hone hlen hR;simp only at hc16;clear hcs hB;have hBx:=Blk.new wr 148 cs.toArray;have x16:=hBx.cell 16;rw[qA,hc16]at x16;have hltI:(k:Int)<(N:Int):=by omega
    have hU3:=hU.alloc (.cells cs.toArray 148);have hsz:(wr.alloc (.cells cs.toArray 148)).heap.size=wr.heap.size+1:=by simp
    obtain⟨v5,w5,hr5,hO5,hg5,_⟩:=body_row.app1 (hO2.alloc (.cells cs.toArray 148)) (by rw[hsz];exact Nat.le_succ_of_le hU.size) 132 (B1,B2,B3) #[.slice B1 B2 B3] rfl (by rw[qlm,qlt];omega)
    obtain⟨A5,c5,rfl,_⟩:=hO5.cap;have hlk:((P.take k).map (·.body)++[(B1,B2,B3)]).length=k+1:=by rw[qla,qlm,qlt,HPL.out,Nat.min_eq_left hk];rfl
    rw[hsz]at hr5;rw[hlk]at hr5 hO5;have hU5:Upd Nowhere w w5:=hU3.grown hg5 fun q e hq=>by have:=hO2.new q e;omega
    have HR5:=qh hr5;have HO5:=qh hO5;have HU5:=qh hU5;have HLT:=qh hlt;have HTK:=qh htake;have HRG:=qh hR;have HIS:Hid ((Tryz.prog.info? 148).map (·.size)=some cs.length):=qh (by rw[hlen];exact item_size)
    have HLN:=qh hlen;have HONE:=qh hone;clear hO2 hU hE2 hx hlt htake hk hU3 hsz hr5 hO5 hg5 hlk hU5 hR hc16 hone hlen hBx
    go_wp2_with (first
     | (refine wpList_load_mid rfl 148 _ rfl g (forced * 18+k * 18) rfl cs _ HRG.out Tryz.underlying148 rfl HIS.out ?_)
     | (refine wpList_store_new rfl 148 _ _ rfl rfl rfl HIS.out (by rw[HLN.out];rfl) HONE.out ?_)
     | (refine wpList_append_run rfl _ _ _ rfl rfl rfl HR5.out ?_))
    go_roundw
    case rel=>exact⟨k+1,A5,c5,by go_num,HLT.out,rfl,by rw[HTK.out];exact HO5.out,HU5.out⟩
    case measure=>
     have h1:=HLT.out;simp only[intOf];omega
   ·have hkN:k=N:=by omega
    subst hkN;have HPP:Hid (P.take k=P):=qh (List.take_of_length_le (by rw[HPL.out];exact qlr _))
    clear hO2 hU;go_wp2_with fail
    go_ret;have hml:(P.map (·.body)).length=k:=by rw[qlm,HPL.out]
    refine⟨A,c2,P.map (·.body),by rw[hml];rfl,?_,?_,HU.out⟩
    ·have:=HO2.out;rw[HPP.out]at this;rw[hml];exact this
    ·have:=HBV.out.upd HU.out fun _ e=>absurd e id
     rw[HP.out]at this;exact this
structure LogB(k:Nat)(S:LogS):Prop where
 cnt:8≤S.count∧S.count≤300
 gen:1≤S.m.gen∧S.m.gen≤1000 * (k+1)
 inc:0≤S.m.inc∧S.m.inc≤1000 * (k+1)
 fst:0≤S.m.first∧S.m.first≤(S.next:Int)∧(S.next:Int)≤S.m.first+S.count
 nxt:S.next≤1000 * (k+1)
 lsn:1≤S.m.lsn∧S.m.lsn≤1000 * (k+1)
 chk:0≤S.m.check∧S.m.check≤2000 * (k+1)
 frc:S.forced≤S.items.length
 len:S.items.length≤1000 * (k+1)
 fcs:S.forces≤1000 * (k+1)
 bod:∀x∈S.items,x.1.length≤4096
 lay:(layAll S.pendB).1.length≤72600
 dsz:S.count+2≤S.dk.size∧S.dk.size≤4096
 dfu:S.dk.fuse≤9223372036854775807
 dsy:0≤S.dk.syncs∧S.dk.syncs≤1000 * (k+1)
 dln:∀n:Int,(S.dk.read n).length=256
 dpl:S.dk.pend.length≤1000 * (k+1)
theorem LogS.pend_len(S:LogS):S.pendB.length=S.items.length - S.forced:=by simp[LogS.pendB]
theorem LogB.pend_body{k:Nat}{S:LogS}(h:LogB k S):∀b∈S.pendB,b.length≤4096:=fun b hb=>by
 obtain⟨x,hx,rfl⟩:=List.mem_map.1 hb;exact h.bod x (List.mem_of_mem_drop hx)
def LogS.sheets(S:LogS)(bs:List Bs):List SheetS:=layB S.m.inc.toNat S.next bs
theorem BodiesE.drew{w:World}{v:Value}{bs:List Bs}(h:BodiesE w v bs):BodiesE w.drew v bs:=h
theorem wlay_ok{bz:Nat}{w:World}{l k:Nat}{p:DkP}{S:LogS}(h:LogAt bz w l p S)(hB:LogB k S)(hk:k≤80){v:Value}{bs:List Bs}(hv:BodiesE w v bs)(hb:∀b∈bs,b.length≤4096)(hn:(layAll bs).1.length≤90000)(hbs:bs.length≤90000)(hW:HalfW w):
 Calls Tryz.prog 72 #[.pointer (some ⟨l,0,none⟩),v] w fun e w'=>∃A c,e= .returned (.slice A (S.sheets bs).length c)∧OwnR 176 sheetC 4 w.heap.size w' (.slice A (S.sheets bs).length c) (S.sheets bs)∧Upd Nowhere w w':=by
 obtain⟨A0,c0,rfl,_⟩:=hv.val;obtain⟨A,c,its,hbx,_⟩:=h.ex;obtain⟨inc,hinc⟩:=Int.eq_ofNat_of_zero_le hB.inc.1;have hlay:=lay_ok (w:=w.drew) inc S.next hv.drew hb hn hbs (by have:=hB.inc.2;omega) (by have:=hB.nxt;omega) hW
 unfold LogS.sheets;rw[hinc,Int.toNat_natCast];obtain⟨dk,count,⟨gen,minc,first,lsn,check⟩,items,forced,next,forces,down⟩:=S;simp only at hinc hlay hbx ⊢;subst hinc;have c3:=hbx.cell 3;have c9:=hbx.cell 9;have hlt:=hbx.lt;simp only[qA,qZ,qS]at c3 c9;have HL:=qh hlay;clear h hB hk hv hb hn hbs hW hbx hlay;go_enter Tryz.func72,Tryz.ntmps72
 go_wp2_with fail
 go_region_held3 (fun w'=>w'.cell? ⟨l,3,none⟩=some (.int .i64 (inc:Nat))∧w'.cell? ⟨l,9,none⟩=some (.int .i64 (next:Nat))) (first | exact⟨c3,c9⟩ | exact k2)
  (first
    | (go_at_call 121
       refine HL.out.mono ?_;rintro e w2 ⟨A2,c2,rfl,hO2,hU2⟩;have k2:w2.cell? ⟨l,3,none⟩=some (.int .i64 (inc:Nat))∧w2.cell? ⟨l,9,none⟩=some (.int .i64 (next:Nat)):=⟨(hU2.cell (p:=⟨l,3,none⟩) hlt id).trans c3,(hU2.cell (p:=⟨l,9,none⟩) hlt id).trans c9⟩;have HO2:=qh hO2;have HU2:=qh hU2;clear hO2 hU2))
 all_goals
  go_wp2_with fail
  go_ret;exact⟨A2,c2,rfl,HO2.out,⟨HU2.out.os,HU2.out.tape,HU2.out.output,HU2.out.size,HU2.out.block⟩⟩
theorem wlast_ok{bz:Nat}{w:World}{l k:Nat}{p:DkP}{S:LogS}(h:LogAt bz w l p S)(hB:LogB k S)(hk:k≤80)(hd:S.down=false):
 Calls Tryz.prog 47 #[.pointer (some ⟨l,0,none⟩)] w fun e w'=>e= .returned (.int .i64 (S.m.lsn+S.items.length - 1))∧Upd Nowhere w w':=by
 have hoff:=off_ok h;rw[hd]at hoff;obtain⟨A,c,its,hbx,_,hl,_⟩:=h.ex;obtain⟨lsn,hlsn⟩:=Int.eq_ofNat_of_zero_le (by have:=hB.lsn.1;omega:0≤S.m.lsn)
 have h1:=hB.lsn;have h2:=hB.len;obtain⟨dk,count,⟨gen,minc,first,mlsn,check⟩,items,forced,next,forces,down⟩:=S;simp only at hlsn hbx hl h1 h2 hoff ⊢;subst hlsn;have c5:=hbx.cell 5;have c7:=hbx.cell 7;simp only[qA,qZ,qS]at c5 c7;rw[hl]at c7;have h3:(lsn:Int)≤100000:=by omega
 have h4:((items.length:Nat):Int)≤100000:=by omega
 have h5:(1:Int)≤(lsn:Int):=by omega
 have HOF:=qh hoff;clear h hB hk hbx h1 h2 hoff;go_enter Tryz.func47,Tryz.ntmps47
 go_wp2_with fail
 refine HOF.out.mono ?_;rintro e w2 ⟨rfl,rfl⟩;go_wp2_with fail
 go_region
 go_wp2_with fail
 go_ret;exact⟨rfl,(Upd.refl _ _).drew⟩
def EncAt(w:World)(r:RecV)(b:Bs)(x:Int):Prop:=∀w',Upd Nowhere w w'→Calls Tryz.prog 78 #[.agg r.cells.toArray] w' fun e w''=>∃A c,e= .returned (.tuple #[.slice A b.length c,.int .i64 x])∧OwnB w'.heap.size w'' (.slice A b.length c) b∧Upd Nowhere w' w''
def DecAny(b:Bs):Prop:=∀(w:World) (v:Value),BytesE w v b→Calls Tryz.prog 79 #[v] w fun e w'=>∃(r:RecV) (x:Int),e= .returned (.tuple #[.agg r.cells.toArray,.int .i64 x])∧Upd Nowhere w w'
theorem body_lit(w:World)(t:SlT):Els 1 slC (w.alloc (.cells #[slV t] 143)) (.slice (some ⟨w.heap.size,0,none⟩) 1 1) [t]:=
 ⟨_,_,rfl,qlr _,rfl,fun _=>⟨_,rfl,by simp,rfl,fun j u hj=>by
  have e:(⟨w.heap.size,0,none⟩:Addr).add j=⟨w.heap.size,j,none⟩:=by unfold Addr.add;split<;>simp_all
  rw[e,(Blk.new w 143 #[slV t]).cell j]
  simpa [slC] using hj⟩⟩
theorem sealO_len{b:Bs}(h:b.length≤4096):(sealO b).length≤b.length+6:=by
 rw[←sealO_eq];have:=shortB_len_le (n:=b.length) (k:=1) (by omega)
 unfold sealB;rw[qla,sumB_len];simp only[textB,qla];omega
theorem layAll_one(bs:List Bs)(b:Bs):(layAll (bs++[b])).1=(layAll bs).1++sealO b:=by
 unfold layAll;rw[List.foldl_append];rfl
def LogS.need(S:LogS)(b:Bs):Nat:=pagesN (layAll (S.pendB++[b])).1.length
def LogS.roomy(S:LogS)(b:Bs)(spare:Int):Bool:=decide ((S.next:Int) - S.m.first+S.need b≤S.count - max spare 0)
def LogS.add(S:LogS)(b:Bs):LogS:={ S with items:=S.items++[(b,0)] }
theorem LogS.sheets_len(S:LogS)(bs:List Bs):(S.sheets bs).length=pagesN (layAll bs).1.length:=by simp[LogS.sheets,layB]
theorem LogS.add_pend(S:LogS)(b:Bs)(h:S.forced≤S.items.length):(S.add b).pendB=S.pendB++[b]:=by
 simp only[LogS.pendB,LogS.add];rw[List.drop_append_of_le_length h,List.map_append];rfl
theorem LogB.need_le{k:Nat}{S:LogS}(h:LogB k S){b:Bs}(hb:b.length≤4096):(layAll (S.pendB++[b])).1.length≤90000∧S.need b≤400:=by
 have h1:=h.lay;have h2:=sealO_len hb;have h3:(layAll (S.pendB++[b])).1.length≤84200:=by rw[layAll_one,qla];omega
 refine⟨by omega,?_⟩
 unfold LogS.need pagesN;omega
theorem LogB.added{k:Nat}{S:LogS}(h:LogB k S){b:Bs}(hb:b.length≤4096){spare:Int}(hr:S.roomy b spare=true):LogB (k+1) (S.add b):=by
 have hr':(S.next:Int) - S.m.first+S.need b≤S.count - max spare 0:=of_decide_eq_true hr;obtain⟨h1,h2,h3,h4,h5,h6,h7,h8,h9,h10,h11,h12,h13,h14,h15,h16,h17⟩:=h;refine⟨h1,?_,?_,h4,?_,?_,?_,?_,?_,?_,?_,?_,h13,h14,?_,h16,?_⟩
 all_goals simp only[LogS.add]at*
 ·omega
 ·omega
 ·omega
 ·omega
 ·omega
 ·rw[qla];exact Nat.le_add_right_of_le h8
 ·rw[qla,qls];omega
 ·omega
 ·intro x hx
  rcases qma.1 hx with hx | hx
  ·exact h11 x hx
  ·rw[List.mem_singleton.1 hx];exact hb
 ·have:=S.add_pend b h8;simp only[LogS.add]at this;rw[this];unfold LogS.need pagesN at hr';omega
 ·omega
 ·omega
def AppP(bz:Nat)(w:World)(l:Nat)(p:DkP)(S:LogS)(b:Bs)(x spare:Int)(e:Ending)(w':World):Prop:=
 (x≠0→e= .returned (.tuple #[.int .i64 0,.int .i64 x])∧LogAt bz w' l p S)∧
 (x=0→S.roomy b spare=false→e= .returned (.tuple #[.int .i64 0,.int .i64 90])∧LogAt bz w' l p S)∧
 (x=0→S.roomy b spare=true→e= .returned (.tuple #[.int .i64 (S.m.lsn+S.items.length),.int .i64 0])∧LogAt bz w' l p (S.add b))∧Upd (LogF bz w) w w'
theorem append_ok{bz:Nat}{w:World}{l k:Nat}{p:DkP}{S:LogS}(h:LogAt bz w l p S)(hB:LogB k S)(hk:k≤79)(hd:S.down=false)(hW:HalfW w){r:RecV}{b:Bs}{x:Int}(hE:EncAt w r b x)(hb:b.length≤4096)(hD:x=0→DecAny b)(spare:Int)(hsp: -9223372036854775808≤spare∧spare≤9223372036854775807):
 Calls Tryz.prog 24 #[.pointer (some ⟨l,0,none⟩),.agg r.cells.toArray,.int .i64 spare] w (AppP bz w l p S b x spare):=by
 have hoff:∀w',Upd Nowhere w w'→Calls Tryz.prog 71 #[.pointer (some ⟨l,0,none⟩)] w' fun e w''=>e= .returned (.int .i64 0)∧w''=w':=fun w' hu=>by
  have:=off_ok (h.up hu)
  rwa [hd]at this
 have hone:=r.cells_one;have hlen:=r.cells_len;unfold EncAt at hE;generalize r.cells=cs at*;have hU1:=(Upd.refl Nowhere w).alloc (.cells cs.toArray 39)
 have hld:(Instr.loadAt 39 (.pointer (some ⟨w.heap.size,0,none⟩))).run Tryz.prog (w.alloc (.cells cs.toArray 39))= .ok (.agg cs.toArray) (w.alloc (.cells cs.toArray 39)):=
  load_new _ _ Tryz.underlying39 rfl (by rw[hlen];exact rec_size) w
 have hrg:(w.alloc (.cells cs.toArray 39)).rangeAt w.heap.size 0 cs:=fun j v hv=>by rw[Nat.zero_add,(Blk.new w 39 cs.toArray).cell j,qA];exact hv
 have HE:=qh (hE _ hU1);have HOF:=qh (hoff _ hU1);have HU1:=qh hU1;have HRG:=qh hrg;have HIS:Hid ((Tryz.prog.info? 39).map (·.size)=some cs.length):=qh (by rw[hlen];exact rec_size)
 have HH:=qh h;have HB:=qh hB;have HW:=qh hW;have HD:=qh hD;have HSP:=qh hsp;clear h hB hW hE hD hsp hoff hU1 hld hrg hlen hone;go_enter Tryz.func24,Tryz.ntmps24
 go_wp2_with fail
 refine HOF.out.mono ?_;rintro e w1 ⟨rfl,rfl⟩
 go_wp2_with (first
  | (refine wpList_load_mid rfl 39 _ rfl w.heap.size 0 rfl cs _ HRG.out Tryz.underlying39 rfl HIS.out ?_))
 refine HE.out.mono ?_;rintro e w2 ⟨A2,c2,rfl,hO2,hU2⟩;have HO2:=qh hO2;have HU2:=qh (HU1.out.same hU2);clear hO2 hU2 HE HOF HRG HU1;by_cases hx:x=0
 ·subst hx;have hH2:=HH.out.up HU2.out;have hfrc:=HB.out.frc;have hlen:=HB.out.len;have hbd:=bodies_ok (w:=w2.drew) (hH2.up (Upd.refl _ w2).drew) hfrc (by omega)
  have hbe:=bodies_ok (w:=(w2.alloc (.cells #[.slice A2 b.length c2] 143)).drew) (hH2.up ((Upd.refl _ w2).alloc _).drew) hfrc (by omega)
  have HBE:=qh hbe;clear hbe;obtain⟨N,hN⟩:∃N,S.need b=N:=⟨_,rfl⟩;have hnl:=HB.out.need_le hb;rw[hN]at hnl
  have hly:∀(w3:World) (A:Option Addr) (c n:Nat) (vs:List SlT),OwnR 143 slC 1 w2.heap.size w3 (.slice A n c) vs→BodV w3 vs (S.pendB++[b])→Upd Nowhere w2 w3→
   Calls Tryz.prog 72 #[.pointer (some ⟨l,0,none⟩),.slice A n c] w3 fun e w'=>∃A c,e= .returned (.slice A N c)∧Upd Nowhere w3 w':=fun w3 A c n vs hO hV hu=>by
   refine(wlay_ok (hH2.up hu) HB.out (by omega) (hV.bodies hO) (fun b' hb'=> ?_) hnl.1 ?_ ((HW.out.upd HU2.out id).upd hu id)).mono ?_
   ·rcases qma.1 hb' with hb' | hb'
    ·exact HB.out.pend_body b' hb'
    ·rw[List.mem_singleton.1 hb'];exact hb
   ·rw[qla,LogS.pend_len,qls];omega
   rintro e w' ⟨A,c,rfl,_,hu⟩;exact⟨A,c,by rw[LogS.sheets_len];unfold LogS.need at hN;rw[hN],hu⟩
  obtain⟨A,c,its,hbx,hOI,hl,hi⟩:=hH2.ex;have hlt:=hbx.lt;obtain⟨first,hfirst⟩:=Int.eq_ofNat_of_zero_le HB.out.fst.1;obtain⟨lsn,hlsn⟩:=Int.eq_ofNat_of_zero_le (by have:=HB.out.lsn.1;omega:0≤S.m.lsn)
  have h1:=HB.out.fst;have h2:=HB.out.nxt;have h3:=HB.out.lsn;have h4:=HB.out.cnt;have hroom:S.roomy b spare=decide ((S.next:Int) - S.m.first+(N:Int)≤S.count - max spare 0):=by unfold LogS.roomy;rw[hN]
  have c1:=hbx.cell 1;have c4:=hbx.cell 4;have c9:=hbx.cell 9;simp only[qA,qZ,qS]at c1 c4 c9;rw[hfirst]at c4 hroom h1;obtain⟨next,hnext⟩:∃n,S.next=n:=⟨_,rfl⟩;obtain⟨count,hcount⟩:∃n,S.count=n:=⟨_,rfl⟩;rw[hnext]at c9 hroom h1 h2;rw[hcount]at c1 hroom h1 h4;have hc:∀w1,Upd Nowhere w2 w1→w1.cell? ⟨l,1,none⟩=some (.int .i64 (count:Nat))∧w1.cell? ⟨l,4,none⟩=some (.int .i64 (first:Nat))∧w1.cell? ⟨l,9,none⟩=some (.int .i64 (next:Nat)):=fun w1 hu=>⟨(hu.cell (p:=⟨l,1,none⟩) hlt id).trans c1,(hu.cell (p:=⟨l,4,none⟩) hlt id).trans c4,(hu.cell (p:=⟨l,9,none⟩) hlt id).trans c9⟩
  obtain⟨ms,hms⟩:∃ms,max spare 0=ms:=⟨_,rfl⟩;rw[hms]at hroom
  have hmax:∀(ts:Array TypeId) (t:TypeId) (W:World),(Builtin.max_ ts t #[.int .i64 spare,.int .i64 0]).run Tryz.prog W= .ok (.int .i64 ms) W:=fun ts t W=>by
   have e:(if spare<(0:Int) then (0:Int) else spare)=ms:=by rw[←hms];split<;>omega
   simp[Builtin.max_,Builtin.max2,e]
  have hm1:0≤ms∧ms≤9223372036854775807:=by have:=HSP.out;omega
  have e1:IntKind.i64.wrap ((next:Int) - (first:Int))=(next:Int) - (first:Int):=by rw[IntWalk.i64_in _ (by omega)]
  have e2:IntKind.i64.wrap ((next:Int) - (first:Int)+(N:Int))=(next:Int) - (first:Int)+(N:Int):=by rw[IntWalk.i64_in _ (by omega)]
  have e3:IntKind.i64.wrap ((count:Int) - ms)=(count:Int) - ms:=by rw[IntWalk.i64_in _ (by omega)]
  have HBD:=qh hbd;have HLY:=qh hly;have HC:=qh hc
  have hroom2:decide ((count:Int) - ms<(next:Int) - (first:Int)+(N:Int))= !S.roomy b spare:=by
   rw[hroom,←decide_not]
   congr 1
   simp
  have HRM:=qh hroom2;have HH2:=qh hH2;have HFST:=qh hfirst;have HLSN:=qh hlsn;have HMS:=qh hms;have HLEN:=qh hlen;have k0:=hc _ (Upd.refl _ w2);obtain⟨q1,q4,q9⟩:=k0;clear hH2 hfrc hlen hbd hN hnl hly hbx hOI hl hi hlt hfirst hlsn h1 h2 h3 h4 hroom hroom2 c1 c4 c9 hnext hcount hc hms hm1;go_wp2_with fail
  go_cut [52] (fun s wz=>s= .bool (!S.roomy b spare)∧Upd Nowhere w2 wz)
  case first=>
   go_region_held3 (fun w'=>w'.cell? ⟨l,1,none⟩=some (.int .i64 (count:Nat))∧w'.cell? ⟨l,4,none⟩=some (.int .i64 (first:Nat))∧w'.cell? ⟨l,9,none⟩=some (.int .i64 (next:Nat))) (first | exact⟨q1,q4,q9⟩ | exact k1 | exact k2 | exact k3 | go_keep)
    (first
      | (refine step_append_run rfl _ _ _ rfl rfl rfl HR4.out ?_)
      | (go_at_call 72
         refine(HLY.out _ _ _ _ _ HO4.out HV4.out HU4.out).mono ?_;rintro e w5 ⟨A5,c5,rfl,hU5⟩;have hU5':=HU4.out.same hU5;have k3:=HC.out _ hU5';have HU5:=qh hU5';clear hU5 hU5')
      | (go_at_call 73
         refine HBD.out.mono ?_;rintro e w3 ⟨A3,c3,vs,rfl,hO3,hV3,hU3⟩;have hU3':Upd Nowhere w2 w3:=⟨hU3.os,hU3.tape,hU3.output,hU3.size,hU3.block⟩;have k1:=HC.out _ hU3';have hE3:=HO2.out.els.upd hU3' fun _ _=>id
         obtain⟨v4,w4,hr4,hO4,hg4,_⟩:=body_row.app1 hO3 hU3.size 132 (A2,b.length,c2) #[.slice A2 b.length c2] rfl (by rw[hV3.1,LogS.pend_len];have:=HLEN.out;omega)
         obtain⟨A4,c4,rfl,_⟩:=hO4.cap;have hu4:Upd (fun k=>(Value.slice A3 vs.length c3).ownBlock=some k) w3 w4:=(Upd.refl _ w3).grown hg4 fun q e _=>e
         have hU4:Upd Nowhere w2 w4:=hU3'.trans hu4 fun q hq e=>absurd (hO3.new q e) (Nat.not_le.2 hq)
         have hV4:BodV w4 (vs++[(A2,b.length,c2)]) (S.pendB++[b]):=by
          have h8:NoU8 (fun k=>(Value.slice A3 vs.length c3).ownBlock=some k) w3:=fun q e=>hO3.notU8 (by decide) e
          have hU8:∀q,(Value.slice A2 b.length c2).ownBlock=some q→U8 w2 q:=fun q e=>by
           obtain⟨cs,hcs⟩:=HO2.out.is_cells e;exact⟨cs,_,hcs⟩
          refine(hV3.upd hu4 h8).snoc (HO2.out.els.upd hU4 fun _ _=>id) fun q e=>(hU8 q e).upd hU4 id
         have k2:=HC.out _ hU4;rw[show(vs++[((A2,b.length,c2):SlT)]).length=vs.length+1 by simp]at hr4 hO4
         have HR4:=qh hr4;have HO4:=qh hO4;have HV4:=qh hV4;have HU4:=qh hU4;clear hO3 hV3 hU3 hU3' hE3 hr4 hO4 hg4 hu4 hU4 hV4)
      | (go_at_call 73
         refine HBE.out.mono ?_;rintro e w3 ⟨A3,c3,vs,rfl,hO3,hV3,hU3⟩;have hU3':Upd Nowhere w2 w3:=((Upd.refl _ w2).alloc (.cells #[.slice A2 b.length c2] 143)).trans ⟨hU3.os,hU3.tape,hU3.output,hU3.size,hU3.block⟩ fun _ _ e=>e
         have hO3:=hO3.far (B':=w2.heap.size) fun q e=>Nat.le_trans (by simp) (hO3.new q e)
         have hK3:Els 1 slC w3 (.slice (some ⟨w2.heap.size,0,none⟩) 1 1) [(A2,b.length,c2)]:=Els.upd (w:=(w2.alloc (.cells #[.slice A2 b.length c2] 143)).drew) (body_lit w2 (A2,b.length,c2)) hU3 fun _ _ e=>e
         have k1:=HC.out _ hU3';have hE3:=HO2.out.els.upd hU3' fun _ _=>id
         obtain⟨A4,c4,w4,hr4,hO4,hu4⟩:=body_row.appU hO3 hU3'.size 132 hK3 (by rw[hV3.1,LogS.pend_len];have:=HLEN.out;simp;omega)
         have hU4:Upd Nowhere w2 w4:=hU3'.trans hu4 fun q hq e=>absurd (hO3.new q e) (Nat.not_le.2 hq)
         have hV4:BodV w4 (vs++[(A2,b.length,c2)]) (S.pendB++[b]):=by
          have h8:NoU8 (fun k=>(Value.slice A3 vs.length c3).ownBlock=some k) w3:=fun q e=>hO3.notU8 (by decide) e
          have hU8:∀q,(Value.slice A2 b.length c2).ownBlock=some q→U8 w2 q:=fun q e=>by
           obtain⟨cs,hcs⟩:=HO2.out.is_cells e;exact⟨cs,_,hcs⟩
          refine(hV3.upd hu4 h8).snoc (HO2.out.els.upd hU4 fun _ _=>id) fun q e=>(hU8 q e).upd hU4 id
         have k2:=HC.out _ hU4;rw[qls]at hr4 hO4;have HR4:=qh hr4;have HO4:=qh hO4;have HV4:=qh hV4;have HU4:=qh hU4;clear hO3 hV3 hU3 hU3' hE3 hr4 hO4 hu4 hK3 hU4 hV4))
   all_goals
    go_wp2_with fail
    go_meet;exact⟨by rw[HRM.out],HU5.out⟩
  case rest=>
   obtain⟨rfl,hU6⟩:=hcut;have HU6:=qh (HU2.out.same hU6);have HU26:=qh hU6;clear hU6 HBD HBE HLY HC HRM hmax e1 e2 e3 q1 q4 q9
   cases hr:S.roomy b spare with
   | false=>
     have HR:=qh hr;clear hr;go_wp2_with fail
     go_ret2;refine⟨fun h=>absurd rfl h,fun _ _=>⟨rfl,HH.out.up HU6.out⟩,?_,HU6.out.any⟩
     intro _ h;rw[HR.out]at h
     cases h
   | true=>
     have HR:=qh hr;clear hr;have HDE:=qh (HD.out (by first | rfl | trivial) _ _ (HO2.out.els.upd HU26.out fun _ _=>id))
     go_wp2_with fail
     refine HDE.out.mono ?_;rintro e w7 ⟨r',x',rfl,hU7⟩;have hH7:=HH.out.up (HU6.out.same hU7);have hbi:=build_item2 r' (A2,b.length,c2);have hbs:=build_row1 ⟨r',(A2,b.length,c2),0⟩;have hone:=r'.cells_one;have hlen:r'.cells.length=16:=r'.cells_len;obtain⟨A,c,its,hbx,hOI,hl,hi⟩:=hH7.ex;obtain⟨n,hn⟩:∃n,its.length=n:=⟨_,rfl⟩;obtain⟨v9,w9,hr9,hO9,hg9,hn9⟩:=item_row.app1 (w:=(w7.alloc (.cells r'.cells.toArray 39)).drew) (hOI.alloc _).drew (by have:=hH7.hl;have:=hbx.lt;show _≤(w7.alloc (.cells r'.cells.toArray 39)).heap.size;simp;omega) 118 ⟨r',(A2,b.length,c2),0⟩ (itemC ⟨r',(A2,b.length,c2),0⟩).toArray (by simp) (by rw[hl];have:=HLEN.out;omega)
     obtain⟨A9,c9,rfl,_⟩:=hO9.cap;have hl9:(its++[(⟨r',(A2,b.length,c2),0⟩:ItV)]).length=n+1:=by rw[qla,hn];rfl
     have hu9:Upd (fun k=>(Value.slice A its.length c).ownBlock=some k) w7 w9:=((Upd.refl _ w7).alloc (.cells r'.cells.toArray 39)).drew.grown hg9 fun k hk _=>hk
     have hbx9:=hbx.upd hu9 (hOI.blk_ne hbx (by decide))
     have hu10:=Upd.one w9 l 7 (.slice A9 (n+1) c9);rw[hl9]at hr9;have hne9:(Value.slice A9 (its++[(⟨r',(A2,b.length,c2),0⟩:ItV)]).length c9).ownBlock≠some l:=hO9.blk_ne hbx9 (by decide)
     have h8a:NoU8 (fun k=>(Value.slice A its.length c).ownBlock=some k) w7:=fun q e=>hOI.notU8 (by decide) e
     have h8b:NoU8 (fun k=>k=l) w9:=noU8_blk hbx9 (by decide)
     have hdk9:DiskAt w9 p S.dk:=hH7.dk.upd hu9 fun k hk e=>by
      obtain⟨cs,hcs⟩:=hOI.is_cells e
      rcases hk with e | e | e | e
      ·subst e;have:=hH7.dk.blk;unfold Blk at this;rw[hcs]at this;injection this with this
       injection this with _ this _
       exact absurd this (by decide)
      ·subst e;exact hH7.dk.syn.not_cells hcs
      ·subst e;exact hH7.dk.now.not_cells hcs
      ·obtain⟨cs2,hc2⟩:=hH7.dk.pend.is_cells e;rw[hcs]at hc2;injection hc2 with this
       injection this with _ this _
       exact absurd this (by decide)
     have hdk10:DiskAt (w9.setCell ⟨l,7,none⟩ (.slice A9 (n+1) c9)) p S.dk:=hdk9.upd hu10 fun k hk e=>by
      subst e
      rcases hk with e | e | e | e
      ·exact hdk9.blk.ne_ hbx9 (by decide) e.symm
      ·exact hdk9.syn.ne_blk hbx9 e.symm
      ·exact hdk9.now.ne_blk hbx9 e.symm
      ·exact hdk9.pend.blk_ne hbx9 (by decide) e
     have hE26:=HO2.out.els.upd HU26.out fun _ _=>id
     have hU8:∀q,(Value.slice A2 b.length c2).ownBlock=some q→U8 w2 q:=fun q e=>by
      obtain⟨cs,hcs⟩:=HO2.out.is_cells e;exact⟨cs,_,hcs⟩
     have hL10:LogAt bz (w9.setCell ⟨l,7,none⟩ (.slice A9 (n+1) c9)) l p (S.add b):=by
      refine⟨⟨A9,c9,its++[⟨r',(A2,b.length,c2),0⟩],?_,hO9.upd hu10 fun k hk e=>hne9 (e▸hk),by simp[LogS.add,hl],fun i y b' q hy hq=> ?_⟩,hdk10,hH7.hl,hH7.pf,hH7.pm,hH7.hz⟩
      ·rw[hl9];exact hbx9.set_ 7 _
      ·simp only[LogS.add]at hq;by_cases hi':i<its.length
       ·rw[qal hi']at hy;rw[qal (by rw[←hl];exact hi')]at hq
        obtain⟨h1,h2,h3⟩:=hi i y b' q hy hq;exact⟨(h1.upd hu9 fun k hk e=>h8a k e (h2 k hk)).upd hu10 fun k hk e=>h8b k e ((h2 k hk).upd hu9 fun e=>h8a k e (h2 k hk)),fun k hk=>((h2 k hk).upd hu9 fun e=>h8a k e (h2 k hk)).upd hu10 fun e=>h8b k e ((h2 k hk).upd hu9 fun e=>h8a k e (h2 k hk)),h3⟩
       ·rw[qar (by omega)]at hy
        rw[qar (by rw[←hl];omega),←hl]at hq
        obtain⟨j,hj⟩:∃j,i - its.length=j:=⟨_,rfl⟩;rw[hj]at hy hq
        cases j with
        | zero=>
          simp only[qZ,Option.some.injEq,Prod.mk.injEq]at hy hq;obtain⟨rfl,rfl⟩:=hq;subst hy;have hE7:=hE26.upd hU7 fun _ _=>id
          have hU87:=fun q e=>((hU8 q e).upd HU26.out id).upd hU7 id
          exact⟨(hE7.upd hu9 fun k hk e=>h8a k e (hU87 k hk)).upd hu10 fun k hk e=>h8b k e ((hU87 k hk).upd hu9 fun e=>h8a k e (hU87 k hk)),fun k hk=>((hU87 k hk).upd hu9 fun e=>h8a k e (hU87 k hk)).upd hu10 fun e=>h8b k e ((hU87 k hk).upd hu9 fun e=>h8a k e (hU87 k hk)),rfl⟩
        | succ j=>simp at hy
     have hU10:Upd (LogF bz w) w (w9.setCell ⟨l,7,none⟩ (.slice A9 (n+1) c9)):=by
      have h1:Upd (LogF bz w7) w7 (w9.setCell ⟨l,7,none⟩ (.slice A9 (n+1) c9)):=(hu9.mono fun k _ e=>by
       obtain⟨cs,hcs⟩:=hOI.is_cells e;exact⟨hOI.new k e,_,hcs,rfl⟩:Upd (LogF bz w7) w7 w9).setCell (p:=⟨l,7,none⟩) (fun _=>hH7.box) _
      exact Upd.logs (HU6.out.same hU7).any h1
     have hLast:=wlast_ok hL10 (HB.out.added hb HR.out) (by omega) hd
     have e12:(S.add b).m.lsn+(((S.add b).items.length:Nat):Int) - 1=S.m.lsn+((S.items.length:Nat):Int):=by
      simp only[LogS.add,qla,qls];omega
     rw[e12]at hLast
     have hld:(Instr.loadAt 39 (.pointer (some ⟨w7.heap.size,0,none⟩))).run Tryz.prog (w7.alloc (.cells r'.cells.toArray 39)).drew= .ok (.agg r'.cells.toArray) (w7.alloc (.cells r'.cells.toArray 39)).drew:=
      run_loadAt_mid _ _ _ _ _ _ (fun j v hv=>by rw[Nat.zero_add];exact((Blk.new w7 39 r'.cells.toArray).cell j).trans (by rw[qA];exact hv)) Tryz.underlying39 rfl (by rw[hlen];exact rec_size)
     have c7:=hbx.alloc (.cells r'.cells.toArray 39);have c7a:=c7.cell 7;have c7b:=(c7.alloc (.cells (itemC ⟨r',(A2,b.length,c2),0⟩).toArray 148)).cell 7;have d7:=hbx9.cell 7;have g7:=hbx9.frozen 7;simp only[qA,qZ,qS,hn]at c7a c7b d7;rw[hn]at hr9;have HISR:Hid ((Tryz.prog.info? 39).map (·.size)=some r'.cells.length):=qh (by rw[hlen];exact rec_size)
     obtain⟨v0,v1,v2,v3,v4,v5,v6,v7,v8,v9,v10,v11,v12,v13,v14,v15,hvs⟩:∃v0 v1 v2 v3 v4 v5 v6 v7 v8 v9 v10 v11 v12 v13 v14 v15,r'.cells=[v0,v1,v2,v3,v4,v5,v6,v7,v8,v9,v10,v11,v12,v13,v14,v15]:=by
      obtain⟨rk,rt,rp,rn,ry,roh,rod,rnh,rnd,rco,rme,rlo,rro,rdi,rde,rpa⟩:=r';exact⟨_,_,_,_,_,_,_,_,_,_,_,_,_,_,_,_,rfl⟩
     have hics:itemC ⟨r',(A2,b.length,c2),0⟩=[v0,v1,v2,v3,v4,v5,v6,v7,v8,v9,v10,v11,v12,v13,v14,v15,.slice A2 b.length c2,.int .i64 0]:=by
      unfold itemC;rw[hvs];rfl
     rw[hics]at hr9 c7b hbi hbs;rw[hvs]at hr9 c7a c7b hbi hone hlen hld HISR ⊢;clear hvs hics;have HONE:=qh hone
     have hsz9:(w7.alloc (.cells #[v0,v1,v2,v3,v4,v5,v6,v7,v8,v9,v10,v11,v12,v13,v14,v15] 39)).drew.heap.size=w7.heap.size+1:=by
      show(w7.alloc (.cells #[v0,v1,v2,v3,v4,v5,v6,v7,v8,v9,v10,v11,v12,v13,v14,v15] 39)).heap.size=_
      simp
     rw[hsz9]at hr9;have hr9':(Builtin.append_ #[118,118] 118 #[.slice A n c,.slice (some ⟨w7.heap.size+1,0,none⟩) 1 1]).run Tryz.prog ((w7.alloc (.cells #[v0,v1,v2,v3,v4,v5,v6,v7,v8,v9,v10,v11,v12,v13,v14,v15] 39)).alloc (.cells #[v0,v1,v2,v3,v4,v5,v6,v7,v8,v9,v10,v11,v12,v13,v14,v15,.slice A2 b.length c2,.int .i64 0] 148)).drew= .ok (.slice A9 (n+1) c9) w9:=hr9;have HR9:=qh hr9';clear hsz9 hr9';have HL10:=qh hL10;have HU10:=qh hU10;have HLS:=qh hLast;clear hU7 hH7 hone hlen hbx hOI hl hi hn hr9 hO9 hg9 hn9 hl9 hu9 hbx9 hu10 hne9 h8a h8b hdk9 hdk10 hE26 hU8 hL10 hU10 hLast c7 HDE
     go_wp2_with (first
      | (refine wpList_store_new rfl 39 _ _ rfl rfl rfl HISR.out rfl HONE.out ?_))
     go_region_law (first
      | (refine step_append_run rfl _ _ _ rfl rfl rfl HR9.out ?_))
     all_goals
      go_wp2_with fail
      refine HLS.out.mono ?_;rintro e w11 ⟨rfl,hU11⟩;have HU11:=qh hU11;clear hU11;go_wp2_with fail
      go_ret2;refine⟨fun h=>absurd rfl h,?_,?_,HU10.out.same HU11.out.any⟩
      ·intro _ h;rw[HR.out]at h
       cases h
      ·intro _ _;exact⟨rfl,HL10.out.up HU11.out⟩
 ·have hx':(x == 0)=false:=by simpa using hx
  have hx2:(x != 0)=true:=by simpa using hx
  have HX:=qh hx;clear hx;go_wp2_with fail
  go_ret2;exact⟨fun _=>⟨rfl,HH.out.up HU2.out⟩,fun h=>absurd h HX.out,fun h=>absurd h HX.out,HU2.out.any⟩
theorem flatMap_set{α:Type}{sz:Nat}{cells:α→List Value}(hc:∀a,(cells a).length=sz):∀(L:List α) (i j:Nat) (a a':α) (u:Value),L[i]? =some a→j<sz→cells a'=(cells a).set j u→(L.set i a').flatMap cells=(L.flatMap cells).set (i * sz+j) u:=by
 intro L
 induction L with
 | nil=>intro i j a a' u h;simp at h
 | cons x l ih=>
   intro i j a a' u h hj he
   cases i with
   | zero=>
     simp only[qZ,Option.some.injEq]at h;subst h;rw[qsZ,List.flatMap_cons,List.flatMap_cons,he,Nat.zero_mul,Nat.zero_add,List.set_append_left _ _ (by rw[hc];exact hj)]
   | succ i=>
     rw[qS]at h;rw[qsS,List.flatMap_cons,List.flatMap_cons,ih i j a a' u h hj he,List.set_append_right _ _ (by rw[hc,Nat.succ_mul];omega)]
     congr 2
     rw[hc,Nat.succ_mul];omega
theorem OwnR.setAt{TE:TypeId}{α:Type}{cells:α→List Value}{sz B:Nat}{w:World}{g n c:Nat}{L:List α}(h:OwnR TE cells sz B w (.slice (some ⟨g,0,none⟩) n c) L)(hc:∀a,(cells a).length=sz){i j:Nat}{a a':α}{u:Value}(hi:L[i]? =some a)(hj:j<sz)(he:cells a'=(cells a).set j u):
 OwnR TE cells sz B (w.setCell ⟨g,i * sz+j,none⟩ u) (.slice (some ⟨g,0,none⟩) n c) (L.set i a'):=by
 obtain⟨⟨h1,h2⟩,h3⟩:=h;refine⟨⟨by rw[flatMap_len hc,List.length_set],?_⟩,h3⟩
 rcases h2 with⟨e,_⟩ | ⟨g',cap,cur,e,hb,hh,hn,hm,hs,ht⟩
 ·cases e
 ·injection e with e1 e2 e3
  injection e1 with e1
  injection e1 with e1 _ _
  subst e1 e2 e3;have hb':Blk w g TE cur:=hh;refine .inr ⟨g,c,cur.setIfInBounds (i * sz+j) u,by rw[List.length_set],hb,hb'.set_ _ u,by rw[List.length_set];exact hn,hm,by simpa using hs,?_⟩
  rw[flatMap_set hc L i j a a' u hi hj he,List.length_set,←ht];simp[List.take_set]
structure LogSame(S S':LogS):Prop where
 dk:S'.dk=S.dk
 items:S'.items=S.items
def LogS.box(S:LogS)(p:DkP)(v:Value):Array Value:=#[.pointer (some ⟨p.d,0,none⟩),.int .i64 (S.count:Nat),.int .i64 S.m.gen,.int .i64 S.m.inc,.int .i64 S.m.first,.int .i64 S.m.lsn,.int .i64 S.m.check,v,.int .i64 (S.forced:Nat),.int .i64 (S.next:Nat),.int .i64 (S.forces:Nat),.bool S.down]
section
variable {w:World} {l:Nat} {p:DkP} {S:LogS} {bz:Nat}
theorem LogAt.notBox(h:LogAt bz w l p S):∀k,p.foot k→k≠l:=by
 obtain⟨_,_,_,hb,_⟩:=h.ex;rintro k hk rfl
 rcases hk with e | e | e | e
 ·exact h.dk.blk.ne_ hb (by decide) e.symm
 ·exact h.dk.syn.ne_blk hb e.symm
 ·exact h.dk.now.ne_blk hb e.symm
 ·exact h.dk.pend.blk_ne hb (by decide) e
theorem LogAt.setBox(h:LogAt bz w l p S)(i:Nat)(u:Value){S':LogS}(hs:LogSame S S')(hc:∀v,(S.box p v).setIfInBounds i u=S'.box p v):LogAt bz (w.setCell ⟨l,i,none⟩ u) l p S'∧Upd (LogF bz w) w (w.setCell ⟨l,i,none⟩ u):=by
 obtain⟨A,c,its,hb,hO,hl,hi⟩:=h.ex;have hu:=Upd.one w l i u;have hne:∀k,U8 w k→¬k=l:=fun k hk e=>hk.ne hb (by decide) e
 refine⟨⟨⟨A,c,its,?_,hO.upd hu fun k hk e=>hO.blk_ne hb (by decide) (e▸hk),by rw[hs.items];exact hl,fun i x b q hx hq=> ?_⟩,by rw[hs.dk];exact h.dk.upd hu fun k hk e=>h.notBox k hk e,h.hl,h.pf,h.pm,h.hz⟩,hu.mono fun k _ e=>e▸h.box⟩
 ·have:=hc (.slice A its.length c);unfold LogS.box at this;rw[←this];exact hb.set_ i u
 ·rw[hs.items]at hq;obtain⟨h1,h2,h3⟩:=hi i x b q hx hq;exact⟨h1.upd hu fun k hk=>hne k (h2 k hk),fun k hk=>(h2 k hk).upd hu (hne k (h2 k hk)),h3⟩
theorem itemC_pos(x:ItV)(q:Nat):itemC ⟨x.rc,x.body,q⟩=(itemC x).set 17 (.int .i64 (q:Nat)):=rfl
theorem LogAt.setPos(h:LogAt bz w l p S){g c n:Nat}(h7:w.cell? ⟨l,7,none⟩=some (.slice (some ⟨g,0,none⟩) n c)){i:Nat}{b:Bs}{q':Nat}(hib:S.items[i]? =some (b,q'))(q:Nat):
 LogAt bz (w.setCell ⟨g,i * 18+17,none⟩ (.int .i64 (q:Nat))) l p { S with items:=S.items.set i (b,q) }∧Upd (LogF bz w) w (w.setCell ⟨g,i * 18+17,none⟩ (.int .i64 (q:Nat)))∧
  (∃q0:Nat,w.cell? ⟨g,i * 18+17,none⟩=some (.int .i64 (q0:Nat)))∧w.frozen? ⟨g,i * 18+17,none⟩=false∧n=S.items.length∧n≤c:=by
 obtain⟨A,c',its,hb,hO,hl,hi⟩:=h.ex;have hc7:=hb.cell 7;rw[h7]at hc7;simp only[qA,qZ,qS,Option.some.injEq]at hc7;injection hc7 with e1 e2 e3
 subst e1 e2 e3;have hil:i<its.length:=by rw[hl];exact(qei.1 hib).1
 obtain⟨x,hx⟩:∃x,its[i]? =some x:=⟨_,qeg hil⟩;have hu:=Upd.one w g (i * 18+17) (.int .i64 (q:Nat));obtain⟨cs,hcs⟩:=hO.is_cells (k:=g) rfl;have hg:Blk w g 148 cs:=hcs;have hne:∀k,U8 w k→¬k=g:=fun k hk e=>hk.ne hg (by decide) e
 have hlg:l≠g:=fun e=>hO.blk_ne hb (by decide) (by rw[e];rfl)
 have hcell:=hO.els.range itemC_len hx;have hq17:=hcell 17 (.int .i64 (x.pos:Nat)) rfl;rw[Nat.zero_add]at hq17;refine⟨⟨⟨some ⟨g,0,none⟩,c,its.set i ⟨x.rc,x.body,q⟩,?_,?_,?_,fun j y b' q'' hy hq=> ?_⟩,h.dk.upd hu fun k hk e=> ?_,h.hl,h.pf,h.pm,h.hz⟩,hu.mono fun k _ e=> ?_,⟨x.pos,hq17⟩,hg.frozen _,hl,?_⟩
 ·rw[List.length_set];exact hb.upd hu hlg
 ·rw[List.length_set];exact hO.setAt itemC_len hx (by omega) (itemC_pos x q)
 ·simp[hl]
 ·simp only at hq;by_cases hij:i=j
  ·subst hij;rw[List.getElem?_set_self hil]at hy;rw[List.getElem?_set_self (by rw[←hl];exact hil)]at hq
   simp only[Option.some.injEq,Prod.mk.injEq]at hy hq;obtain⟨rfl,rfl⟩:=hq;subst hy;obtain⟨h1,h2,_⟩:=hi i x b q' hx hib;exact⟨h1.upd hu fun k hk=>hne k (h2 k hk),fun k hk=>(h2 k hk).upd hu (hne k (h2 k hk)),rfl⟩
  ·rw[List.getElem?_set_ne hij]at hy hq;obtain⟨h1,h2,h3⟩:=hi j y b' q'' hy hq;exact⟨h1.upd hu fun k hk=>hne k (h2 k hk),fun k hk=>(h2 k hk).upd hu (hne k (h2 k hk)),h3⟩
 ·subst e
  rcases hk with e | e | e | e
  ·subst e;exact h.dk.blk.ne_ hg (by decide) rfl
  ·subst e;exact h.dk.syn.not_cells hcs
  ·subst e;exact h.dk.now.not_cells hcs
  ·obtain⟨cs2,hc2⟩:=h.dk.pend.is_cells e;rw[hcs]at hc2;injection hc2 with this
   injection this with _ this _
   exact absurd this (by decide)
 ·subst e;exact⟨hO.new _ rfl,_,hcs,rfl⟩
 ·obtain⟨_,_,e,hc⟩:=hO.cap;injection e with _ _ e
  omega
end
def putsGo(count:Nat):List SheetS→DiskS→DiskS×Int
 | [],D=>(D,0)
 | s::l,D=>if (D.put ((2+s.pos.toNat % count:Nat):Int) s.enc).2≠0 then D.put ((2+s.pos.toNat % count:Nat):Int) s.enc else putsGo count l (D.put ((2+s.pos.toNat % count:Nat):Int) s.enc).1
def placed(items:List (Bs×Nat))(forced next:Nat)(F:List (Bs×Nat))(j:Nat):List (Bs×Nat):=
 items.mapIdx fun i x=>if forced≤i∧i<forced+j then (x.1,next+(F.getD (i - forced) ([],0)).2) else x
theorem placed_get(items:List (Bs×Nat))(forced next:Nat)(F:List (Bs×Nat))(j i:Nat):(placed items forced next F j)[i]? =(items[i]?).map fun x=>if forced≤i∧i<forced+j then (x.1,next+(F.getD (i - forced) ([],0)).2) else x:=by
 unfold placed;rw[List.getElem?_mapIdx]
theorem placed_len(items:List (Bs×Nat))(forced next:Nat)(F:List (Bs×Nat))(j:Nat):(placed items forced next F j).length=items.length:=by simp[placed]
theorem placed_zero(items:List (Bs×Nat))(forced next:Nat)(F:List (Bs×Nat)):placed items forced next F 0=items:=by
 apply List.ext_getElem?;intro i;rw[placed_get]
 cases items[i]? with
 | none=>rfl
 | some x=>
   have:¬(forced≤i∧i<forced+0):=by omega
   simp only[Option.map_some,if_neg this]
theorem placed_succ{items:List (Bs×Nat)}{forced next:Nat}{F:List (Bs×Nat)}{j:Nat}{b:Bs}{q f:Nat}{b':Bs}(hi:items[forced+j]? =some (b,q))(hf:F[j]? =some (b',f)):placed items forced next F (j+1)=(placed items forced next F j).set (forced+j) (b,next+f):=by
 apply List.ext_getElem?;intro i;rw[placed_get];have hl:forced+j<(placed items forced next F j).length:=by rw[placed_len];exact(qei.1 hi).1
 by_cases h:forced+j=i
 ·subst h;rw[List.getElem?_set_self hl,hi];simp[hf]
 ·rw[List.getElem?_set_ne h,placed_get]
  cases items[i]? with
  | none=>rfl
  | some x=>
    simp only[Option.map_some,Option.some.injEq];have:(forced≤i∧i<forced+(j+1))↔(forced≤i∧i<forced+j):=by omega
    simp only[this]
def LogS.forceS(S:LogS):LogS×Int:=
 if S.forced=S.items.length then (S,0)
 else
  let P:=putsGo S.count (S.sheets S.pendB) S.dk
  if P.2≠0 then ({ S with dk:=P.1,down:=P.2 == 40 },P.2)
  else
   let Q:=P.1.sync
   if Q.2≠0 then ({ S with dk:=Q.1,down:=Q.2 == 40 },Q.2)
   else ({ S with dk:=Q.1,items:=placed S.items S.forced S.next (findB (S.sheets S.pendB)) (S.items.length - S.forced),forced:=S.items.length,next:=S.next+(S.sheets S.pendB).length,forces:=S.forces+1 },0)
theorem enc_len(s:SheetS):s.enc.length=12+s.data.length:=by simp[SheetS.enc,wide5];omega
theorem wrote_read(S:DiskS)(n k:Int)(b:Bs)(h:∀n,(S.read n).length=256)(hb:b.length=256):((S.wrote n b).read k).length=256:=by
 have:=h k;unfold DiskS.read DiskS.wrote putF at*;simp only;split
 ·rename_i e
  split at e
  ·injection e with e;rw[←e];exact hb
  ·rw[e]at this;exact this
 ·rename_i e
  split at e
  ·cases e
  ·rw[e]at this;exact this
theorem step_read(S:DiskS)(k:Int):S.step.read k=S.read k:=by unfold DiskS.step;split<;>rfl
theorem put_read(S:DiskS)(n k:Int)(b:Bs)(h:∀n,(S.read n).length=256)(hb:b.length≤254):(((S.put n b).1).read k).length=256:=by
 unfold DiskS.put;split
 ·exact h k
 ·unfold DiskS.write;split
  ·simp only;rw[step_read];exact h k
  ·exact wrote_read _ _ _ _ (fun m=>by rw[step_read];exact h m) (wrapB_len _ hb)
def ForP(bz:Nat)(w:World)(l:Nat)(p:DkP)(R:LogS×Int)(e:Ending)(w':World):Prop:=∃p':DkP,p'.d=p.d∧e= .returned (.int .i64 R.2)∧LogAt bz w' l p' R.1∧Upd (LogF bz w) w w'
structure DkB(j:Nat)(D0 D:DiskS):Prop where
 fu:D.fuse≤9223372036854775807
 sy:D.syncs=D0.syncs
 sz:D.size=D0.size
 pl:D.pend.length≤D0.pend.length+j
 rd:∀n:Int,(D.read n).length=256
theorem DkB.put{j:Nat}{D0 D:DiskS}(h:DkB j D0 D)(n:Int){b:Bs}(hb:b.length≤254):DkB (j+1) D0 (D.put n b).1:=by
 obtain⟨h1,h2,h3,h4⟩:=put_keeps D n b;exact⟨h1 h.fu,by rw[h2,h.sy],by rw[h3,h.sz],by have:=h.pl;omega,fun k=>put_read D n k b h.rd hb⟩
theorem OwnR.logs{bz:Nat}{w w':World}{α:Type}{sz:Nat}{cells:α→List Value}{B:Nat}{TE:TypeId}{v:Value}{L:List α}(h:OwnR TE cells sz B w v L)(ht:∀cs fz,logTy (.cells cs TE fz)=false)(hu:Upd (LogF bz w) w w'):OwnR TE cells sz B w' v L:=
 h.upd hu fun k hk=>by
  obtain⟨cs,hcs⟩:=h.is_cells hk;rintro⟨_,o,h1,h2⟩;rw[hcs]at h1;injection h1 with h1
  subst h1;rw[show logTyM (decide (k<bz+3)) (.cells cs TE (0,0))=logTy (.cells cs TE (0,0)) from rfl,ht]at h2
  cases h2
theorem dsync_any{w:World}{p:DkP}{S:DiskS}(h:DiskAt w p S)(hfu:S.fuse≤9223372036854775807)(hsy:0≤S.syncs∧S.syncs≤4000000000):
 Calls Tryz.prog 102 #[.pointer (some ⟨p.d,0,none⟩)] w (PutP p S.sync.1 S.sync.2 w):=by
 unfold DiskS.sync
 cases hg:S.gone with
 | false=>exact(dsync_ok h hfu hsy hg).mono fun e w' ⟨v',h1,h2,h3,h4⟩=>⟨v',h1,h2,h3,h4⟩
 | true=>exact(dsync_gone h hfu hg).mono fun e w' ⟨h1,h2,h3⟩=>⟨p.v,h1,h2,h3,NewV.refl _ _⟩
theorem LogAt.row{bz:Nat}{w:World}{l:Nat}{p:DkP}{S:LogS}(h:LogAt bz w l p S)(hn:S.items≠[]):∃g c,w.cell? ⟨l,7,none⟩=some (.slice (some ⟨g,0,none⟩) S.items.length c)∧S.items.length≤c:=by
 obtain⟨A,c,its,hb,hO,hl,_⟩:=h.ex;obtain⟨g,rfl,_⟩:=hO.addr (by intro e;rw[e]at hl;exact hn (List.eq_nil_of_length_eq_zero hl.symm))
 refine⟨g,c,by rw[←hl];exact hb.cell 7,?_⟩
 obtain⟨_,_,e,hc⟩:=hO.cap;injection e with _ _ e
 omega
theorem LogAt.cells{bz:Nat}{w:World}{l:Nat}{p:DkP}{S:LogS}(h:LogAt bz w l p S):w.cell? ⟨l,8,none⟩=some (.int .i64 (S.forced:Nat))∧w.cell? ⟨l,9,none⟩=some (.int .i64 (S.next:Nat))∧w.cell? ⟨l,10,none⟩=some (.int .i64 (S.forces:Nat))∧(∀i,w.frozen? ⟨l,i,none⟩=false):=by
 obtain⟨A,c,its,hb,_⟩:=h.ex;exact⟨hb.cell 8,hb.cell 9,hb.cell 10,hb.frozen⟩
def SheetS.good(s:SheetS):Prop:=(0≤s.inc∧s.inc<1099511627776)∧(0≤s.pos∧s.pos<1099511627776)∧s.data.length≤242∧(s.first=255∨0≤s.first∧s.first≤(s.data.length:Nat))∧s.pos≤1000000
theorem force_ok{bz:Nat}{w:World}{l k:Nat}{p:DkP}{S:LogS}(h:LogAt bz w l p S)(hB:LogB k S)(hk:k≤79)(hd:S.down=false)(hW:HalfW w)(hg:∀s∈S.sheets S.pendB,s.good)(hfd:(findB (S.sheets S.pendB)).length=S.pendB.length)(hfb:∀x∈findB (S.sheets S.pendB),x.2≤300):
 Calls Tryz.prog 49 #[.pointer (some ⟨l,0,none⟩)] w (ForP bz w l p S.forceS):=by
 have hoff:=off_ok h;rw[hd]at hoff;have HOF:=qh hoff;obtain⟨A,c,its,hbx,_,hl,_⟩:=h.ex;have hlt:=hbx.lt;have c7:=hbx.cell 7;have c8:=hbx.cell 8;simp only[qA,qZ,qS]at c7 c8;have h2:=hB.len;have h3:=hB.frc;rw[hl]at c7;have hnI:((S.items.length:Nat):Int)≤100000:=by omega
 have hfI:((S.forced:Nat):Int)≤((S.items.length:Nat):Int):=by omega
 have HH:=qh h;have HB:=qh hB;have HW:=qh hW;have HG:=qh hg;have HFD:=qh hfd;have HFB:=qh hfb;by_cases hz:S.forced=S.items.length
 ·have hR:S.forceS=(S,0):=by unfold LogS.forceS;rw[if_pos hz]
  rw[hR];rw[hz]at c8;clear hoff h hB hW hg hfd hfb hbx hl h2 h3 hR hz;go_enter Tryz.func49,Tryz.ntmps49
  go_wp2_with fail
  refine HOF.out.mono ?_;rintro e w2 ⟨rfl,rfl⟩;go_wp2_with fail
  go_region
  all_goals
   go_wp2_with fail
   go_ret;exact⟨p,rfl,rfl,HH.out.up (Upd.refl _ _).drew,(Upd.refl _ _).drew⟩
 ·have hne:¬((S.forced:Nat):Int)=((S.items.length:Nat):Int):=by omega
  have hne':(((S.forced:Nat):Int) == ((S.items.length:Nat):Int))=false:=by simpa using hne
  clear hoff h hB hW hg hfd hfb hbx hl h2 h3;go_enter Tryz.func49,Tryz.ntmps49
  go_wp2_with fail
  refine HOF.out.mono ?_;rintro e w2 ⟨rfl,rfl⟩;go_wp2_with fail
  have hfrc:=HB.out.frc;have hlen:=HB.out.len;have hbd:=bodies_ok (w:=w2.drew) (HH.out.up (Upd.refl _ w2).drew) hfrc (by omega)
  have HBD:=qh hbd;clear hbd hlen hfrc;go_region
  all_goals
   go_wp2_with fail
   refine HBD.out.mono ?_;rintro e w3 ⟨A3,c3,vs,rfl,hO3,hV3,hU3⟩;have hU3':Upd Nowhere w2 w3:=⟨hU3.os,hU3.tape,hU3.output,hU3.size,hU3.block⟩;have hly:=wlay_ok (HH.out.up hU3') HB.out (by omega) (hV3.bodies hO3) HB.out.pend_body (by have:=HB.out.lay;omega) (by have:=HB.out.len;rw[LogS.pend_len];omega) (HW.out.upd hU3' id)
   have HLY:=qh hly;have HU3:=qh hU3';clear hO3 hV3 hU3 hU3' hly HBD;go_wp2_with fail
   refine HLY.out.mono ?_;rintro e w4 ⟨A4,c4,rfl,hO4,hU4⟩;have HO4:=qh hO4;have HU4:=qh (HU3.out.same hU4);clear hO4 hU4 HU3 HLY;obtain⟨Z,hZ⟩:∃Z,S.sheets S.pendB=Z:=⟨_,rfl⟩;obtain⟨N,hN⟩:∃N,Z.length=N:=⟨_,rfl⟩
   have hNI:(N:Int)≤1000:=by
    have h1:=HB.out.lay;have h2:=LogS.sheets_len S S.pendB;rw[hZ,hN]at h2;unfold pagesN at h2;omega
   have HZ:=qh hZ;have HNN:=qh hN;rw[hZ,hN]at HO4;rw[hZ]at HG HFD HFB;rw[hZ,hN];clear hZ hN;go_wp2_with fail
   go_loopw [36] (fun s36 wr=>∃(j:Nat) (D:DiskS) (p':DkP),s36= .int .i64 (j:Int)∧j≤N∧p'.d=p.d∧LogAt bz wr l p' { S with dk:=D }∧putsGo S.count Z S.dk=putsGo S.count (Z.drop j) D∧DkB j S.dk D∧Upd (LogF bz w4) w4 wr) (fun s36 _=>N - (intOf s36).toNat)
   case atStart=>exact⟨0,S.dk,p,rfl,by omega,rfl,HH.out.up HU4.out,rfl,⟨HB.out.dfu,rfl,rfl,qlr _,HB.out.dln⟩,Upd.refl _ _⟩
   case round=>
    obtain⟨j,D,p',rfl,hj,hpd,hL,hP,hD,hU⟩:=hrel;by_cases hjN:j<N
    ·obtain⟨s,hs⟩:∃s,Z[j]? =some s:=⟨_,qeg (by rw[HNN.out];exact hjN)⟩
     have hE:=(HO4.out.logs (fun _ _=>rfl) hU).els
     obtain⟨g,off,cc,he,hgl,hq⟩:=hE.get sheetC_len hs;injection he with he1 he2 he3
     subst he1;have hgood:=HG.out s (qmg hs)
     have hZd:Z.drop j=s::Z.drop (j+1):=by
      obtain⟨hj',rfl⟩:=qei.1 hs;exact List.drop_eq_getElem_cons hj'
     obtain⟨⟨hi1,hi2⟩,⟨hp1,hp2⟩,hdl,hf,hpb⟩:=hgood;have hen:=fun w1=>senc_ok s ⟨hi1,hi2⟩ ⟨hp1,hp2⟩ hdl hf w1
     have hel:=enc_len s;obtain⟨q,hqq⟩:=Int.eq_ofNat_of_zero_le hp1
     have hPS:putsGo S.count Z S.dk=(if (D.put ((2+q % S.count:Nat):Int) s.enc).2≠0 then D.put ((2+q % S.count:Nat):Int) s.enc else putsGo S.count (Z.drop (j+1)) (D.put ((2+q % S.count:Nat):Int) s.enc).1):=by
      rw[hP,hZd];simp only[putsGo,hqq,Int.toNat_natCast]
     obtain⟨n,hn⟩:∃n,2+q % S.count=n:=⟨_,rfl⟩
     have hnb:n<D.size:=by
      have h1:=hD.sz;have h2:=HB.out.dsz;have h3:=HB.out.cnt;have h4:q % S.count<S.count:=Nat.mod_lt _ (by omega)
      omega
     have hDB:=hD.put (n:Int) (b:=s.enc) (by omega)
     have hput:∀(w1:World) (v:Value),LogAt bz w1 l p' { S with dk:=D }→BytesE w1 v s.enc→_:=fun w1 v hL1 hv=>
      put_sector (show DiskAt w1 p' D from hL1.dk) hD.fu n hnb (hD.rd n) hv (by omega) (by have:=hD.pl;have:=HB.out.dpl;omega)
     have hsec:∀(w1:World),LogAt bz w1 l p' { S with dk:=D }→_:=fun w1 hL1=>sector_ok hL1 (by have:=HB.out.cnt;simp only;omega) (by have:=HB.out.cnt;simp only;omega) q (by omega)
     simp only[hn]at hsec hPS;obtain⟨⟨D',x⟩,hDx⟩:∃t,D.put (n:Int) s.enc=t:=⟨_,rfl⟩;rw[hDx]at hput hPS hDB;simp only at hput hPS hDB;obtain⟨inc,pos,first,data⟩:=s;generalize hen':SheetS.enc ⟨inc,pos,first,data⟩=enc at*;clear hen' hDx;simp only at hqq;subst hqq;unfold SheetS.arr at hen;simp only at hen;have q0:=hq 0 (by omega)
     have q1:=hq 1 (by omega)
     have q2:=hq 2 (by omega)
     have q3:=hq 3 (by omega)
     simp only[sheetC,SheetS.arr,qZ,qS,Nat.add_zero]at q0 q1 q2 q3;have hjI:(j:Int)<(N:Int):=by omega
     have hBx:=Blk.new wr 176 #[.int .i64 inc,.int .i64 (q:Nat),.int .i64 first,strV data];have hux:=(Upd.refl Nowhere wr).alloc (.cells #[.int .i64 inc,.int .i64 (q:Nat),.int .i64 first,strV data] 176);have HEN:=qh (hen (wr.alloc (.cells #[.int .i64 inc,.int .i64 (q:Nat),.int .i64 first,strV data] 176)));have HBX:=qh hBx;have HUX:=qh hux;have HL:=qh hL;have HU:=qh hU;have HPS:=qh hPS;have HDB:=qh hDB;have HPUT:=qh hput;have HSEC:=qh hsec;have HPD:=qh hpd;have HJN:=qh hjN;have hjc:j+1≤N:=hjN;have HJC:=qh hjc;clear hE he2 he3 hq hZd hi1 hi2 hp1 hp2 hdl hf hpb hen hel hPS hn hnb hDB hput hsec hs hBx hux hL hP hD hU hpd hjN hj hjc hgl;go_wp2_with fail
     refine HEN.out.mono ?_;rintro e w5 ⟨A5,c5,rfl,hO5,hU5⟩;have hL5:=(HL.out.up HUX.out).up hU5;have hB5:=HBX.out.upd hU5 id;have x1:=hB5.cell 1;obtain⟨_,_,_,hlb,_⟩:=hL5.ex;have l0:=hlb.cell 0;simp only[qA,qZ,qS]at x1 l0;have HL5:=qh hL5;have HB5:=qh hB5;have HU5:=qh hU5;have HO5:=qh hO5;clear hL5 hB5 hlb hU5 hO5 HEN q0 q1 q2 q3;go_wp2_with fail
     go_region_held3 (fun w'=>w'.cell? ⟨l,0,none⟩=some (.pointer (some ⟨p'.d,0,none⟩))∧w'.cell? ⟨wr.heap.size,1,none⟩=some (.int .i64 (q:Nat))) (first | exact⟨l0,x1⟩ | exact y6 | exact y7)
      (first
        | (go_at_call 99
           refine(met_ok HL6.out x).mono ?_;rintro e w7 ⟨rfl,hL7,hU7⟩
           have y7:w7.cell? ⟨l,0,none⟩=some (.pointer (some ⟨p'.d,0,none⟩))∧w7.cell? ⟨wr.heap.size,1,none⟩=some (.int .i64 (q:Nat)):=by
            obtain⟨_,_,_,hlb,_⟩:=hL7.ex;refine⟨hlb.cell 0,?_⟩;refine((HB6.out.upd hU7 ?_).cell 1);rintro⟨_,o,h1,h2⟩;have h3:=HB6.out;unfold Blk at h3;rw[h3]at h1;injection h1 with h1
            subst h1
            cases h2
           have HL7:=qh hL7;have HU7:=qh (HU6.out.logs hU7);clear hL7 hU7)
        | (go_at_call 100
           refine(HPUT.out _ _ (HL5.out.up (Upd.refl _ _).drew) HO5.out.drew.els).mono ?_;rintro e w6 ⟨v',rfl,hD6,hU6,hN6⟩;have hL6:=(HL5.out.up (Upd.refl _ w5).drew).disk (p':=p'.at_ v') rfl ⟨rfl,rfl⟩ hU6 hD6 ((HL5.out.up (Upd.refl _ w5).drew).far hN6)
           have hB6:=HB5.out.drew.upd hU6 fun e=>by
            have:=(HL.out.dk.lt _ e);omega
           have y6:w6.cell? ⟨l,0,none⟩=some (.pointer (some ⟨p'.d,0,none⟩))∧w6.cell? ⟨wr.heap.size,1,none⟩=some (.int .i64 (q:Nat)):=by
            obtain⟨_,_,_,hlb,_⟩:=hL6.ex;exact⟨hlb.cell 0,hB6.cell 1⟩
           have HU6:=qh ((HL5.out.up (Upd.refl _ w5).drew).foot hU6);have HL6:=qh hL6;have HB6:=qh hB6;clear hD6 hU6 hN6 hL6 hB6)
        | (go_at_call 101
           refine(HSEC.out _ (HL5.out.up (Upd.refl _ _).drew)).mono ?_;rintro e w55 ⟨rfl,rfl⟩))
     all_goals
      have hU47:Upd (LogF bz w4) w4 w7:=(HU.out.same (HUX.out.same HU5.out).any).logs ⟨HU7.out.os,HU7.out.tape,HU7.out.output,HU7.out.size,HU7.out.block⟩;have HU47:=qh hU47;clear hU47;by_cases hx:x=0
      ·subst hx
       have hLL:LogAt bz w7 l (p'.at_ v') { S with dk:=D' }:=by
        have:=HL7.out;simp only[show(S.down || (0:Int) == 40)=S.down by rw[hd];rfl]at this
        exact this
       have hPN:=HPS.out;rw[if_neg (by decide)]at hPN
       have HLL:=qh hLL;have HPN:=qh hPN;clear hLL hPN HL7 HPS;go_wp2_with fail
       go_roundw
       case rel=>exact⟨j+1,D',p'.at_ v',by go_num,HJC.out,HPD.out,HLL.out,HPN.out,HDB.out,HU47.out⟩
       case measure=>
        have h1:=HJC.out;simp only[intOf];omega
      ·have hx':(x == 0)=false:=by simpa using hx
       have hx2:(x != 0)=true:=by simpa using hx
       have hR:S.forceS=({ S with dk:=D',down:=x == 40 },x):=by
        have h1:=HPS.out;rw[if_pos hx]at h1;unfold LogS.forceS;rw[if_neg hz,HZ.out,h1];simp[hx]
       have hLL:LogAt bz w7 l (p'.at_ v') { S with dk:=D',down:=x == 40 }:=by
        have:=HL7.out;simp only[hd,Bool.false_or]at this;exact this
       have HR:=qh hR;have HLL:=qh hLL;clear hx hR hLL HL7 HPS;go_wp2_with fail
       go_ret;rw[HR.out];exact⟨p'.at_ v',HPD.out,rfl,HLL.out,HU4.out.any.logs HU47.out⟩
    ·have hjn:N=j:=by omega
     subst hjn
     have hPN:putsGo S.count Z S.dk=(D,0):=by
      rw[hP,List.drop_eq_nil_of_le (by rw[HNN.out];exact qlr _)]
      rfl
     have hsy:=dsync_any hL.dk hD.fu (by have h1:=hD.sy;have h2:=HB.out.dsy;simp only;omega)
     obtain⟨_,_,_,hlb,_⟩:=hL.ex;have l0:=hlb.cell 0;simp only[qA,qZ]at l0;have HL:=qh hL;have HU:=qh hU;have HPN:=qh hPN;have HD:=qh hD;have HPD:=qh hpd;have HSY:=qh hsy;clear hP hL hU hPN hD hpd hsy hlb hj hjN;go_wp2_with fail
     refine HSY.out.mono ?_;clear HSY;obtain⟨⟨D2,x2⟩,hD2⟩:∃t,D.sync=t:=⟨_,rfl⟩;simp only[hD2];rintro e w8 ⟨v',rfl,hD8,hU8,hN8⟩;have hL8:=HL.out.disk (p':=p'.at_ v') rfl ⟨rfl,rfl⟩ hU8 hD8 (HL.out.far hN8);have hm:=met_ok hL8 x2;have HM:=qh hm;have HU8:=qh (HL.out.foot hU8);have HD2:=qh hD2;clear hL8 hm hD8 hU8 hN8 hD2 l0;go_wp2_with fail
     refine HM.out.mono ?_;rintro e w9 ⟨rfl,hL9,hU9⟩;have hU49:=HU.out.logs (HU8.out.logs hU9);have HU49:=qh hU49;clear hU9 hU49 HM HU8 HU;by_cases hx:x2=0
     ·subst hx
      have hL9':LogAt bz w9 l (p'.at_ v') { S with dk:=D2 }:=by
       have:=hL9;simp only[show(S.down || (0:Int) == 40)=S.down by rw[hd];rfl]at this
       exact this
      have hfn:=find_ok (HO4.out.logs (fun _ _=>rfl) HU49.out).els (by have h1:=HB.out.lay;have h2:=LogS.sheets_len S S.pendB;rw[HZ.out,HNN.out]at h2;unfold pagesN at h2;rw[HNN.out];omega) (fun s hs=>(HG.out s hs).2.2.1) ((HW.out.upd HU4.out id).logs HH.out.hz HU49.out)
      have HFN:=qh hfn;have HL9:=qh hL9';clear hL9 hL9' hfn;go_wp2_with fail
      refine HFN.out.mono ?_;clear HFN;rintro e w10 ⟨A8,c8,rfl,hO8,hU8⟩;obtain⟨F,hF⟩:∃F,findB Z=F:=⟨_,rfl⟩;rw[hF]at hO8 HFD HFB ⊢;obtain⟨M,hM⟩:∃M,S.items.length - S.forced=M:=⟨_,rfl⟩;have hFM:F.length=M:=by rw[HFD.out,LogS.pend_len];exact hM
      rw[hFM]at hO8 ⊢;have hL10:=HL9.out.up hU8;have hfl:=HB.out.frc;have hM0:0<M:=by omega
      have hne0:S.items≠[]:=by intro e;rw[e]at hM;simp at hM;omega
      obtain⟨g0,c0,h7,hc0⟩:=hL10.row hne0;simp only at h7 hc0;have hcc:=hL10.cells;simp only at hcc;obtain⟨h8,_,_,_⟩:=hcc;have hcf:¬c0=S.forced:=by omega
      have hcf':¬S.forced=c0:=fun e=>hcf e.symm
      have hcI:((S.items.length:Nat):Int)≤(c0:Int):=by omega
      have hMI:((S.items.length:Nat):Int) - ((S.forced:Nat):Int)=(M:Int):=by omega
      have hMb:(M:Int)≤100000:=by omega
      have HU410:=qh (HU49.out.same hU8.any);have HO8:=qh hO8;have HL10:=qh hL10;have HF:=qh hF;have HFM:=qh hFM;clear hO8 hU8 hL10 hF hFM hfl hM0 hc0 HU49 HL9;go_wp2_with fail
      go_region
      all_goals
       go_wp2_with fail
       have HMM:=qh hM;clear hM;go_loopw [83] (fun s83 wr=>∃(j:Nat),s83= .int .i64 (j:Int)∧j≤M∧LogAt bz wr l (p'.at_ v') { S with dk:=D2,items:=placed S.items S.forced S.next F j }∧Upd (LogF bz w10) w10 wr) (fun s83 _=>M - (intOf s83).toNat)
       case atStart=>exact⟨0,rfl,by omega,by rw[placed_zero];exact HL10.out.up (Upd.refl _ _).drew,(Upd.refl _ _).drew⟩
       case round=>
        obtain⟨j,rfl,hj,hL,hU⟩:=hrel;by_cases hjM:j<M
        ·obtain⟨⟨b',f⟩,hf⟩:∃t,F[j]? =some t:=⟨_,qeg (by rw[HFM.out];exact hjM)⟩
         obtain⟨⟨b,q⟩,hi⟩:∃t,S.items[S.forced+j]? =some t:=⟨_,qeg (by have:=HMM.out;omega)⟩
         have hps:=placed_succ (next:=S.next) hi hf
         have hpi:(placed S.items S.forced S.next F j)[S.forced+j]? =some (b,q):=by
          rw[placed_get,hi];have:¬(S.forced≤S.forced+j∧S.forced+j<S.forced+j):=by omega
          simp only[Option.map_some,if_neg this]
         have hfb:=HFB.out _ (qmg hf);simp only at hfb;have hplen:(placed S.items S.forced S.next F j).length=S.items.length:=placed_len _ _ _ _ _;obtain⟨g1,c1,h71,hc1⟩:=hL.row (by intro e;simp only at e;rw[e]at hplen;exact hne0 (List.eq_nil_of_length_eq_zero hplen.symm))
         simp only at h71 hc1;rw[hplen]at h71 hc1;obtain⟨hL2,hU2,⟨q0,hq0⟩,hfz,hst1,hst2⟩:=hL.setPos h71 hpi (S.next+f);clear hst1 hst2;obtain⟨h81,h91,_,_⟩:=hL.cells;simp only at h81 h91;have hE8:=(HO8.out.logs (fun _ _=>rfl) hU).els
         obtain⟨gf,off8,cc8,he,_,hqq⟩:=hE8.get foundC_len hf;injection he with he1 he2 he3
         subst he1;have qf:=hqq 1 (by omega)
         simp only[foundC,qZ,qS]at qf;rw[Int.natCast_add]at hL2 hU2;have e1:IntKind.i64.wrap (((S.forced:Nat):Int)+(j:Int))=((S.forced:Nat):Int)+(j:Int):=by rw[IntWalk.i64_in _ (by omega)]
         have e2:IntKind.i64.wrap (((S.next:Nat):Int)+(f:Int))=((S.next:Nat):Int)+(f:Int):=by have:=HB.out.nxt;rw[IntWalk.i64_in _ (by omega)]
         have hjI:(j:Int)<(M:Int):=by omega
         have hsI:((S.forced:Nat):Int)+(j:Int)<((S.items.length:Nat):Int):=by omega
         have hjc:j+1≤M:=hjM;have HJC:=qh hjc;have HL2:=qh hL2;have HU2:=qh (hU.logs hU2);have HPS:=qh hps;clear hps hf hi hpi hfb hplen hL2 hU2 hL hU hE8 he2 he3 hqq hc1 hj hjM hjc;go_wp2_with fail
         go_region
         all_goals
          go_wp2_with fail
          go_roundw
          case rel=>exact⟨j+1,by go_num,HJC.out,by rw[HPS.out];exact HL2.out.up (Upd.refl _ _).drew,HU2.out.drew⟩
          case measure=>
           have h1:=HJC.out;simp only[intOf];omega
        ·have hjm:M=j:=by omega
         subst hjm;have hplen:(placed S.items S.forced S.next F M).length=S.items.length:=placed_len _ _ _ _ _;obtain⟨g1,c1,h71,hc1⟩:=hL.row (by intro e;simp only at e;rw[e]at hplen;exact hne0 (List.eq_nil_of_length_eq_zero hplen.symm))
         simp only at h71;rw[hplen]at h71;obtain⟨h81,_,_,hz1⟩:=hL.cells;have z18:=hz1 8;have hlt1:=hL.lt;obtain⟨hL2,hU2⟩:=hL.setBox 8 (.int .i64 ((S.items.length:Nat):Int)) (S':={ S with dk:=D2,items:=placed S.items S.forced S.next F M,forced:=S.items.length }) ⟨rfl,rfl⟩ fun v=>by unfold LogS.box;rfl
         obtain⟨_,h92,_,hz2⟩:=hL2.cells;have z29:=hz2 9;obtain⟨hL3,hU3⟩:=hL2.setBox 9 (.int .i64 ((S.next+N:Nat):Int)) (S':={ S with dk:=D2,items:=placed S.items S.forced S.next F M,forced:=S.items.length,next:=S.next+N }) ⟨rfl,rfl⟩ fun v=>by unfold LogS.box;rfl
         obtain⟨_,_,h103,hz3⟩:=hL3.cells;have z310:=hz3 10;obtain⟨hL4,hU4⟩:=hL3.setBox 10 (.int .i64 ((S.forces+1:Nat):Int)) (S':={ S with dk:=D2,items:=placed S.items S.forced S.next F M,forced:=S.items.length,next:=S.next+N,forces:=S.forces+1 }) ⟨rfl,rfl⟩ fun v=>by unfold LogS.box;rfl
         have hU44:=((hU.logs hU2).logs hU3).logs hU4
         have hR:S.forceS=({ S with dk:=D2,items:=placed S.items S.forced S.next F M,forced:=S.items.length,next:=S.next+N,forces:=S.forces+1 },0):=by
          unfold LogS.forceS;rw[if_neg hz,HZ.out,HPN.out,HF.out,HMM.out,HNN.out];simp[HD2.out]
         rw[Int.natCast_add]at hL3 hU3 h103 hL4 hU44 z310;rw[Int.natCast_add S.forces 1]at hL4 hU44;simp only at h81 h92 h103;have hfcs:=HB.out.fcs;have hnx:=HB.out.nxt;have hfI2:((S.forces:Nat):Int)≤1000000:=by omega
         have hnI2:((S.next:Nat):Int)≤1000000:=by omega
         have HR:=qh hR;have HL4:=qh hL4;have HU44:=qh hU44;clear hplen hc1 hz1 hL2 hU2 hz2 hL3 hU3 hz3 hL4 hU4 hU44 hR hL hU hfcs hnx;go_wp2_with fail
         go_ret;rw[HR.out];exact⟨p'.at_ v',HPD.out,rfl,HL4.out,(HU4.out.any.logs HU410.out).logs HU44.out⟩
     ·have hx':(x2 == 0)=false:=by simpa using hx
      have hx2:(x2 != 0)=true:=by simpa using hx
      have hR:S.forceS=({ S with dk:=D2,down:=x2 == 40 },x2):=by
       unfold LogS.forceS;rw[if_neg hz,HZ.out,HPN.out];simp[HD2.out,hx]
      have hLL:LogAt bz w9 l (p'.at_ v') { S with dk:=D2,down:=x2 == 40 }:=by
       have:=hL9;simp only[hd,Bool.false_or]at this;exact this
      have HR:=qh hR;have HLL:=qh hLL;clear hx hR hLL hL9;go_wp2_with fail
      go_ret;rw[HR.out];exact⟨p'.at_ v',HPD.out,rfl,HLL.out,HU4.out.any.logs HU49.out⟩
end Go.Proofs.YtdfccegeihfdpaaGreatDoor
