/-
  WalMarks: the law, walked for records in memory. WalCrashes: what the loop keeps, in memory.
-/
import Derived.Test.YtljmmkjdlcfkpaaGreatDoorQWuB
import Derived.Test.YtljmmkjdlcfkpaaGreatDoorQWvC
import Derived.Test.YtljmmkjdlcfkpaaGreatDoorQWxG
namespace Go.Proofs.YtljmmkjdlcfkpaaGreatDoor
open Go Go.RowKit
theorem wpList_row1_run{P:Program}{ops:Array Oper}{rest:List Oper}{o:Oper}{a:Act}{Q:Exit→Act→World→Prop}(hg:o.guard=none)(ty:TypeId)(x:Operand)(ho:o.op= .buildSlice ty 1 #[(0,x)]){v0 v:Value}{w w':World}(hx:a.eval x=v0)(hrun:(Instr.buildSlice ty 1 #[(0,v0)]).run P w= .ok v w')(h:wpList P ops Q rest (a.put o.dst v) w'):wpList P ops Q (o::rest) a w:=by
 refine wpList_plain hg fun K hK=> ?_
 unfold Oper.wp execOp;simp only[ho,List.map_toArray,List.map_cons,List.map_nil,hx,Sem.run_bind,Sem.run_pure,hrun,Result.andThen_ok];exact hK _ _ h
theorem build_rec1(x:RecP)(s:Sls)(w:World):(Instr.buildSlice 51 1 #[(0,.agg (x.rv s).cells.toArray)]).run Tryz.prog w= .ok (.slice (some ⟨w.heap.size,0,none⟩) 1 1) (w.alloc (.cells (x.rv s).cells.toArray 38)):=by
 kernel_rfl
theorem OwnR.take{TE:TypeId}{α:Type}{cells:α→List Value}{sz B:Nat}{w:World}{A:Option Addr}{n c:Nat}{L:List α}(h:OwnR TE cells sz B w (.slice A n c) L)(hc:∀a,(cells a).length=sz)(hn:L.length=n){m:Nat}(hm:m≤n)(h0:A=none→m=0):OwnR TE cells sz B w (.slice A m c) (L.take m):=by
 refine⟨⟨?_,?_⟩,fun k hk=>h.new k (by cases A with | none=>cases hk | some a=>exact hk)⟩
 ·rw[flatMap_len hc]
 ·rw[qlt,Nat.min_eq_left (by omega)]
  rcases h.row.2 with⟨e,e0⟩ | ⟨g,cap,cur,e,hb,hh,hcap,hmx,hs,ht⟩
  ·injection e with e1 e2 e3
   subst e1 e2 e3;exact .inl ⟨by rw[h0 rfl],h0 rfl⟩
  ·injection e with e1 e2 e3
   subst e1 e3;refine .inr ⟨g,c,cur,rfl,hb,hh,by omega,hmx,hs,?_⟩
   rw[hn]at e2 ht;have hle:m * sz≤n * sz:=Nat.mul_le_mul_right _ hm;have e3:cur.toList.take (m * sz)=(L.flatMap cells).take (m * sz):=by rw[←ht,List.take_take,Nat.min_eq_left hle]
   rw[e3];clear e3 ht hle hh hs h
   have:∀(L:List α) (m:Nat),(L.flatMap cells).take (m * sz)=(L.take m).flatMap cells:=by
    intro L
    induction L with
    | nil=>intro m;simp
    | cons a l ih=>
      intro m
      cases m with
      | zero=>simp
      | succ m=>
        rw[List.flatMap_cons,List.take_succ_cons,List.flatMap_cons,Nat.succ_mul,Nat.add_comm,List.take_append,hc a,Nat.add_sub_cancel_left,ih,List.take_of_length_le (by rw[hc a];omega)]
   exact this L m
theorem Blk.logs{bz:Nat}{w w':World}{g t:Nat}{cs:Array Value}(h:Blk w g t cs)(ht:logTy (.cells cs t (0,0))=false)(hu:Upd (LogF bz w) w w'):Blk w' g t cs:=h.upd hu (h.noLog ht)
structure CLp(w:World)(count k:Nat)(b:Bool)(d l:Nat)(first forced:Int)(X:List RcW)(A:Option Addr)(c n:Nat)(wr:World):Prop where
 ex:∃(p:DkP) (S:LogS) (f:Nat) (Z:List SheetS) (F:List (Bs×Nat)),LogAt w.heap.size wr l p S∧p.d=d∧CrI count k b S f Z F∧HoldsC S X∧S.m.lsn - 1+(S.items.length:Nat)=(X.length:Nat)∧first=S.m.lsn∧forced=S.m.lsn+(S.forced:Nat) - 1
 own:OwnR 38 RcW.cells 16 w.heap.size wr (.slice A n c) X
 len:X.length=n
 sub:∀r∈X,r.old w∧r.p.tame
 upd:Upd Nowhere w wr
section
variable {w:World} {count k:Nat} {b:Bool} {d l:Nat} {first forced:Int} {X:List RcW} {A:Option Addr} {c n:Nat} {wr w':World}
theorem CLp.up(h:CLp w count k b d l first forced X A c n wr)(hu:Upd Nowhere wr w'):CLp w count k b d l first forced X A c n w':=by
 obtain⟨p,S,f,Z,F,h1,h2⟩:=h.ex;exact⟨⟨p,S,f,Z,F,h1.up hu,h2⟩,h.own.upd hu fun _ _=>id,h.len,h.sub,h.upd.same hu⟩
theorem CLp.more(h:CLp w count k b d l first forced X A c n wr){j:Nat}(hj:k≤j):CLp w count j b d l first forced X A c n wr:=by
 obtain⟨p,S,f,Z,F,h1,h2,h3,h4⟩:=h.ex;exact⟨⟨p,S,f,Z,F,h1,h2,h3.more hj,h4⟩,h.own,h.len,h.sub,h.upd⟩
theorem CLp.le(h:CLp w count k b d l first forced X A c n wr):n≤k:=by
 obtain⟨p,S,f,Z,F,h1,h2,h3,h4,h5,_⟩:=h.ex;have:=h3.len;have:=h.len;omega
end
theorem Back.dec{count k:Nat}{X:List RcW}{D:DiskS}{S1 S2:LogS}{f1:Nat}{Z2:List SheetS}{F2:List (Bs×Nat)}{u:Nat}(h:Back count k S1 f1 D S2 Z2 F2 u)(hx:HoldsC S2 X):∀x∈findB Z2,DecZ x.1∧x.1.length≤4096∧x.2≤300:=fun x hm=>by
 rw[h.fb]at hm;have hp:=h.pl x hm;obtain⟨j,hj⟩:=List.getElem?_of_mem hm;have h1:S2.items[j]? =some (x.1,f1+x.2):=by rw[h.eq];show(placedAt f1 F2)[j]? =_;rw[placedAt_get,hj];rfl
 obtain⟨e,r,_,_,hd⟩:=hx j _ _ h1;exact⟨hd.z,h.cr.bod (x.1,f1+x.2) (qmg h1),by omega⟩
end Go.Proofs.YtljmmkjdlcfkpaaGreatDoor
