/-
  Arguments opened: a slice of bytes, a slice of structs, a parcel. A record that came in, opened: its cells, and what lies in its lists. A slice of records that came in, opened. The package's table, as the row lays it.
-/
import Derived.Lib.SmallJoins
import Derived.Test.YtljmmkjdlcfkpaaGreatDoorMWuE
import Derived.Test.YtljmmkjdlcfkpaaGreatDoorMPost
import Derived.Test.YtljmmkjdlcfkpaaGreatDoorTie
import Derived.Test.YtljmmkjdlcfkpaaGreatDoorCards
import Derived.LaidMore
import Derived.Lay
namespace Go.Proofs.YtljmmkjdlcfkpaaGreatDoor
open Go Go.ChangeShapes Go.WideShapes Go.ChangeAt Go.RowKit
theorem list_choose{α:Type}{Q:Nat→α→Prop}:∀(n:Nat),(∀i,i<n→∃a,Q i a)→∃L:List α,L.length=n∧∀i a,L[i]? =some a→Q i a:=by
 intro n
 induction n with
 | zero=>intro _;exact⟨[],rfl,fun i a h=>by simp at h⟩
 | succ n ih=>
   intro h;obtain⟨L,hl,hL⟩:=ih fun i hi=>h i (by omega)
   obtain⟨a,ha⟩:=h n (by omega)
   refine⟨L++[a],by simp[hl],fun i b hb=> ?_⟩
   by_cases hi:i<n
   ·rw[qal (by omega)]at hb
    exact hL i b hb
   ·have hlt:=(qei.1 hb).1;simp at hlt;obtain rfl:i=n:=by omega
    rw[qar (by omega)]at hb
    simp[hl]at hb;subst hb;exact ha
def RowsAt{α:Type}(W:World)(size:Nat)(E:List Value→α→Prop)(v:Value)(L:List α):Prop:=
 ∃A c,v= .slice A L.length c∧L.length≤c∧c≤maxLen∧(0<L.length→∃b off,A=some ⟨b,off,none⟩∧b<W.heap.size∧
  ∀i a,L[i]? =some a→∃cs,cs.length=size∧E cs a∧∀j u,cs[j]? =some u→W.cell? ⟨b,off+i * size+j,none⟩=some u)
theorem addr_add(b off:Nat)(n:Nat):(⟨b,off,none⟩:Addr).add n=⟨b,off+n,none⟩:=by
 unfold Addr.add;split<;>simp_all
theorem cell_lt{W:World}{a:Addr}{v:Value}(h:W.cell? a=some v):a.block<W.heap.size∧a.spot=none:=by
 unfold World.cell? at h;split at h
 ·rename_i hh
  refine⟨lt_of_heap hh,?_⟩;split at h
  ·cases h
  ·rename_i hs;simpa using hs
 ·cases h
section
variable {H:Type} {enc:TypeId×Value→H} {P:Program} {W:World} {base:Nat} {held:Bool}
theorem open_rows{α:Type}{E:List Value→α→Prop}{t e:TypeId}{m:Nat}{v:Value}{y:DataW H×List MemPlace}{sp:Nat→Bool}(size:Nat)(hpos:0<size)(ht:P.underlying t=some (.slice e))(hc:P.cellsOf e=size)
 (h:DataW.trod enc P W base sp held m t [v]=some y) (hE:∀n cs y,cs.length=size→DataW.trod enc P W base sp held n e cs=some y→∃a:α,E cs a):∃L:List α,RowsAt W size E v L:=by
 rcases Deep.open_slice ht h with⟨e2,_⟩ | ⟨a,len,cap,k,n,D,Pl,e2,_,hl,hm,hk,_,hi⟩
 ·simp only[List.cons.injEq,and_true]at e2;subst e2;exact⟨[],none,0,rfl,qlr _,Nat.zero_le _,fun h=>absurd h (by simp)⟩
 ·simp only[List.cons.injEq,and_true]at e2;subst e2;have hlk:len≤k:=by rw[hk];split<;>omega
  obtain⟨L,hL,hQ⟩:=list_choose (Q:=fun i (x:α)=>∃cs,cs.length=size∧E cs x∧∀j,j<size→W.cell? ((a.add (i * size)).add j)=cs[j]?) len (fun i hi'=>by
   obtain⟨cs,h1,h2⟩:=hi i (by omega)
   rw[hc]at h1;obtain⟨_,h3,h4⟩:=World.cells?_some h1;obtain⟨x,hx⟩:=hE n cs _ h3 h2;exact⟨x,cs,h3,hx,h4⟩)
  subst hL;refine⟨L,some a,cap,rfl,hl,hm,fun h0=> ?_⟩
  obtain⟨cs0,hs0,_,hc0⟩:=hQ 0 L[0] (qeg h0);have h00:=hc0 0 hpos;rw[qeg (by omega:0<cs0.length)]at h00
  obtain⟨hb,hsp⟩:=cell_lt h00;obtain⟨b,off,s⟩:=a;have hs':s=none:=by simpa [Addr.add] using hsp
  subst hs';refine⟨b,off,rfl,by simpa [Addr.add] using hb,fun i x hx=> ?_⟩
  obtain⟨cs,h1,h2,h3⟩:=hQ i x hx;refine⟨cs,h1,h2,fun j u hj=> ?_⟩
  have hj':=(qei.1 hj).1;have h4:=h3 j (by omega)
  rw[addr_add,addr_add,hj]at h4;exact h4
end
theorem str_list(s:ByteArray):∃b:Bs,Value.string s=strV b:=by
 obtain⟨⟨l⟩⟩:=s;exact⟨l,rfl⟩
theorem els_of_rows{α:Type}{W:World}{size:Nat}{cells:α→List Value}(hpos:0<size)(hc:∀a,(cells a).length=size){v:Value}{L:List α}(h:RowsAt W size (fun cs a=>cs=cells a) v L):Els size cells W v L:=by
 obtain⟨A,c,rfl,hlc,_,hat⟩:=h;refine⟨A,c,rfl,hlc,flatMap_len hc L,fun h0=> ?_⟩
 obtain⟨b,off,rfl,hb,hrow⟩:=hat h0;refine⟨_,rfl,hb,rfl,fun j u hj=> ?_⟩
 have hlt:=(qei.1 hj).1;rw[flatMap_len hc L]at hlt;have hi:j / size<L.length:=(Nat.div_lt_iff_lt_mul hpos).2 hlt;have hr:j % size<size:=Nat.mod_lt _ hpos;have hjj:j / size * size+j % size=j:=by rw[Nat.mul_comm];exact Nat.div_add_mod j size
 obtain⟨cs,_,rfl,hcell⟩:=hrow (j / size) L[j / size] (qeg hi);have hg:=flatMap_get hc (qeg hi) (j % size) hr;rw[hjj,hj]at hg;rw[addr_add,←hjj,←Nat.add_assoc];exact hcell _ u hg.symm
theorem els_of_rowsP{α:Type}{W:World}{size:Nat}{cells:α→List Value}{Q:α→Prop}(hpos:0<size)(hc:∀a,(cells a).length=size){v:Value}{L:List α}(h:RowsAt W size (fun cs a=>cs=cells a∧Q a) v L):Els size cells W v L∧∀a∈L,Q a:=by
 refine⟨els_of_rows hpos hc ?_,fun a ha=> ?_⟩
 ·obtain⟨A,c,h1,h2,h3,h4⟩:=h;refine⟨A,c,h1,h2,h3,fun h0=> ?_⟩
  obtain⟨b,off,h5,h6,h7⟩:=h4 h0
  exact⟨b,off,h5,h6,fun i a hi=>by
   obtain⟨cs,h8,h9,h10⟩:=h7 i a hi;exact⟨cs,h8,h9.1,h10⟩⟩
 ·obtain⟨A,c,h1,h2,h3,h4⟩:=h;obtain⟨i,hi⟩:=List.getElem?_of_mem ha;have hlt:=(qei.1 hi).1;obtain⟨b,off,h5,h6,h7⟩:=h4 (by omega)
  obtain⟨cs,h8,h9,h10⟩:=h7 i a hi;exact h9.2
section
variable {H:Type} {enc:TypeId×Value→H} {P:Program} {W:World} {base:Nat} {sp:Nat→Bool} {held:Bool}
theorem trod_fields2{t:TypeId}{f0 f1:Field}{fuel:Nat}{cs:List Value}{x:DataW H×List MemPlace}(ht:P.underlying t=some (.struct #[f0,f1]))(h:DataW.trod enc P W base sp held fuel t cs=some x):
 (∃y n,DataW.trod enc P W base sp held n f0.type ((cs.drop f0.offset).take (P.cellsOf f0.type))=some y)∧
   (∃y n,DataW.trod enc P W base sp held n f1.type ((cs.drop f1.offset).take (P.cellsOf f1.type))=some y):=by
 obtain⟨xs,n,_,rfl,hl,hlen,hf⟩:=DataW.trod_struct ht h
 match xs,hlen with
 | [y0,y1],_=>exact⟨⟨y0,n,by simpa using hf 0 f0 rfl⟩,⟨y1,n,by simpa using hf 1 f1 rfl⟩⟩
theorem trod_fields8{t:TypeId}{f0 f1 f2 f3 f4 f5 f6 f7:Field}{fuel:Nat}{cs:List Value}{x:DataW H×List MemPlace}(ht:P.underlying t=some (.struct #[f0,f1,f2,f3,f4,f5,f6,f7]))(h:DataW.trod enc P W base sp held fuel t cs=some x):
 (∃y n,DataW.trod enc P W base sp held n f0.type ((cs.drop f0.offset).take (P.cellsOf f0.type))=some y)∧
   (∃y n,DataW.trod enc P W base sp held n f1.type ((cs.drop f1.offset).take (P.cellsOf f1.type))=some y)∧
   (∃y n,DataW.trod enc P W base sp held n f2.type ((cs.drop f2.offset).take (P.cellsOf f2.type))=some y)∧
   (∃y n,DataW.trod enc P W base sp held n f3.type ((cs.drop f3.offset).take (P.cellsOf f3.type))=some y)∧
   (∃y n,DataW.trod enc P W base sp held n f4.type ((cs.drop f4.offset).take (P.cellsOf f4.type))=some y)∧
   (∃y n,DataW.trod enc P W base sp held n f5.type ((cs.drop f5.offset).take (P.cellsOf f5.type))=some y)∧
   (∃y n,DataW.trod enc P W base sp held n f6.type ((cs.drop f6.offset).take (P.cellsOf f6.type))=some y)∧
   (∃y n,DataW.trod enc P W base sp held n f7.type ((cs.drop f7.offset).take (P.cellsOf f7.type))=some y):=by
 obtain⟨xs,n,_,rfl,hl,hlen,hf⟩:=DataW.trod_struct ht h
 match xs,hlen with
 | [y0,y1,y2,y3,y4,y5,y6,y7],_=>exact⟨⟨y0,n,by simpa using hf 0 f0 rfl⟩,⟨y1,n,by simpa using hf 1 f1 rfl⟩,⟨y2,n,by simpa using hf 2 f2 rfl⟩,⟨y3,n,by simpa using hf 3 f3 rfl⟩,⟨y4,n,by simpa using hf 4 f4 rfl⟩,⟨y5,n,by simpa using hf 5 f5 rfl⟩,⟨y6,n,by simpa using hf 6 f6 rfl⟩,⟨y7,n,by simpa using hf 7 f7 rfl⟩⟩
theorem trod_fields14{t:TypeId}{f0 f1 f2 f3 f4 f5 f6 f7 f8 f9 f10 f11 f12 f13:Field}{fuel:Nat}{cs:List Value}{x:DataW H×List MemPlace}(ht:P.underlying t=some (.struct #[f0,f1,f2,f3,f4,f5,f6,f7,f8,f9,f10,f11,f12,f13]))(h:DataW.trod enc P W base sp held fuel t cs=some x):
 (∃y n,DataW.trod enc P W base sp held n f0.type ((cs.drop f0.offset).take (P.cellsOf f0.type))=some y)∧
   (∃y n,DataW.trod enc P W base sp held n f1.type ((cs.drop f1.offset).take (P.cellsOf f1.type))=some y)∧
   (∃y n,DataW.trod enc P W base sp held n f2.type ((cs.drop f2.offset).take (P.cellsOf f2.type))=some y)∧
   (∃y n,DataW.trod enc P W base sp held n f3.type ((cs.drop f3.offset).take (P.cellsOf f3.type))=some y)∧
   (∃y n,DataW.trod enc P W base sp held n f4.type ((cs.drop f4.offset).take (P.cellsOf f4.type))=some y)∧
   (∃y n,DataW.trod enc P W base sp held n f5.type ((cs.drop f5.offset).take (P.cellsOf f5.type))=some y)∧
   (∃y n,DataW.trod enc P W base sp held n f6.type ((cs.drop f6.offset).take (P.cellsOf f6.type))=some y)∧
   (∃y n,DataW.trod enc P W base sp held n f7.type ((cs.drop f7.offset).take (P.cellsOf f7.type))=some y)∧
   (∃y n,DataW.trod enc P W base sp held n f8.type ((cs.drop f8.offset).take (P.cellsOf f8.type))=some y)∧
   (∃y n,DataW.trod enc P W base sp held n f9.type ((cs.drop f9.offset).take (P.cellsOf f9.type))=some y)∧
   (∃y n,DataW.trod enc P W base sp held n f10.type ((cs.drop f10.offset).take (P.cellsOf f10.type))=some y)∧
   (∃y n,DataW.trod enc P W base sp held n f11.type ((cs.drop f11.offset).take (P.cellsOf f11.type))=some y)∧
   (∃y n,DataW.trod enc P W base sp held n f12.type ((cs.drop f12.offset).take (P.cellsOf f12.type))=some y)∧
   (∃y n,DataW.trod enc P W base sp held n f13.type ((cs.drop f13.offset).take (P.cellsOf f13.type))=some y):=by
 obtain⟨xs,n,_,rfl,hl,hlen,hf⟩:=DataW.trod_struct ht h
 match xs,hlen with
 | [y0,y1,y2,y3,y4,y5,y6,y7,y8,y9,y10,y11,y12,y13],_=>exact⟨⟨y0,n,by simpa using hf 0 f0 rfl⟩,⟨y1,n,by simpa using hf 1 f1 rfl⟩,⟨y2,n,by simpa using hf 2 f2 rfl⟩,⟨y3,n,by simpa using hf 3 f3 rfl⟩,⟨y4,n,by simpa using hf 4 f4 rfl⟩,⟨y5,n,by simpa using hf 5 f5 rfl⟩,⟨y6,n,by simpa using hf 6 f6 rfl⟩,⟨y7,n,by simpa using hf 7 f7 rfl⟩,⟨y8,n,by simpa using hf 8 f8 rfl⟩,⟨y9,n,by simpa using hf 9 f9 rfl⟩,⟨y10,n,by simpa using hf 10 f10 rfl⟩,⟨y11,n,by simpa using hf 11 f11 rfl⟩,⟨y12,n,by simpa using hf 12 f12 rfl⟩,⟨y13,n,by simpa using hf 13 f13 rfl⟩⟩
end
set_option maxRecDepth 100000
section
variable {H:Type} {enc:TypeId×Value→H} {W:World} {base:Nat} {sp:Nat→Bool} {held:Bool}
theorem one_int:Tryz.prog.cellsOf 3=1:=by kernel_rfl
theorem one_str:Tryz.prog.cellsOf 9=1:=by kernel_rfl
theorem one_bool:Tryz.prog.cellsOf 4=1:=by kernel_rfl
theorem two_val:Tryz.prog.cellsOf 31=2:=by kernel_rfl
theorem one_ints:Tryz.prog.cellsOf 32=1:=by kernel_rfl
theorem one_locks:Tryz.prog.cellsOf 33=1:=by kernel_rfl
theorem one_rows:Tryz.prog.cellsOf 34=1:=by kernel_rfl
theorem one_dirty:Tryz.prog.cellsOf 35=1:=by kernel_rfl
theorem one_deeds:Tryz.prog.cellsOf 36=1:=by kernel_rfl
theorem two_lock:Tryz.prog.cellsOf 103=2:=by kernel_rfl
theorem eight_row:Tryz.prog.cellsOf 105=8:=by kernel_rfl
theorem two_deed:Tryz.prog.cellsOf 107=2:=by kernel_rfl
theorem sixteen_rec:Tryz.prog.cellsOf 38=16:=by kernel_rfl
theorem int_openE{n:Nat}{cs:List Value}{y:DataW H×List MemPlace}(hl:cs.length=1)(h:DataW.trod enc Tryz.prog W base sp held n 3 cs=some y):∃z:Int,cs=intC z:=by
 match cs,hl with
 | [c0],_=>
   obtain⟨z,e,_,_⟩:=DataW.trod_int Tryz.underlying3 h;exact⟨z,e⟩
theorem lock_openE{n:Nat}{cs:List Value}{y:DataW H×List MemPlace}(hl:cs.length=2)(h:DataW.trod enc Tryz.prog W base sp held n 103 cs=some y):∃z:LockP,cs=lockC z:=by
 match cs,hl with
 | [c0,c1],_=>
   obtain⟨⟨y0,m0,g0⟩,⟨y1,m1,g1⟩⟩:=trod_fields2 Tryz.underlying103 h;simp only[one_str,one_bool,List.drop_succ_cons,List.drop_zero,List.take_succ_cons,List.take_zero]at g0 g1;obtain⟨s,e0,_,_⟩:=DataW.trod_string Tryz.underlying9 g0;obtain⟨b,e1,_⟩:=DataW.trod_bool Tryz.underlying4 g1;obtain⟨l,el⟩:=str_list s;simp only[List.cons.injEq,and_true]at e0 e1;subst e0 e1;exact⟨(l,b),by rw[el];rfl⟩
theorem dir_openE{n:Nat}{cs:List Value}{y:DataW H×List MemPlace}(hl:cs.length=2)(h:DataW.trod enc Tryz.prog W base sp held n 154 cs=some y):∃z:Int×Int,cs=dirC z:=by
 match cs,hl with
 | [c0,c1],_=>
   obtain⟨⟨y0,m0,g0⟩,⟨y1,m1,g1⟩⟩:=trod_fields2 Tryz.underlying154 h;simp only[one_int,List.drop_succ_cons,List.drop_zero,List.take_succ_cons,List.take_zero]at g0 g1;obtain⟨a,e0,_,_⟩:=DataW.trod_int Tryz.underlying3 g0;obtain⟨b,e1,_,_⟩:=DataW.trod_int Tryz.underlying3 g1;simp only[List.cons.injEq,and_true]at e0 e1;subst e0 e1;exact⟨(a,b),rfl⟩
theorem slc{α:Type}{size:Nat}{cells:α→List Value}{v:Value}{L:List α}(h:Els size cells W v L):∃t:SlT,v=slV t:=by
 obtain⟨A,c,e,_⟩:=h;exact⟨(A,L.length,c),e⟩
theorem ints_openE{n:Nat}{v:Value}{y:DataW H×List MemPlace}(h:DataW.trod enc Tryz.prog W base sp held n 32 [v]=some y):∃(t:SlT) (L:List Int),v=slV t∧Els 1 intC W (slV t) L:=by
 obtain⟨L,hL⟩:=open_rows (E:=fun cs (a:Int)=>cs=intC a) 1 (by omega) Tryz.underlying32 one_int h fun n cs y hl hy=>int_openE hl hy
 have hE:=els_of_rows (size:=1) (cells:=intC) (by decide) (fun _=>rfl) hL
 obtain⟨t,rfl⟩:=slc hE;exact⟨t,L,rfl,hE⟩
theorem locks_openE{n:Nat}{v:Value}{y:DataW H×List MemPlace}(h:DataW.trod enc Tryz.prog W base sp held n 33 [v]=some y):∃(t:SlT) (L:List LockP),v=slV t∧Els 2 lockC W (slV t) L:=by
 obtain⟨L,hL⟩:=open_rows (E:=fun cs (a:LockP)=>cs=lockC a) 2 (by omega) Tryz.underlying33 two_lock h fun n cs y hl hy=>lock_openE hl hy
 have hE:=els_of_rows (size:=2) (cells:=lockC) (by decide) (fun _=>rfl) hL
 obtain⟨t,rfl⟩:=slc hE;exact⟨t,L,rfl,hE⟩
theorem dirs_openE{n:Nat}{v:Value}{y:DataW H×List MemPlace}(h:DataW.trod enc Tryz.prog W base sp held n 35 [v]=some y):∃(t:SlT) (L:List (Int×Int)),v=slV t∧Els 2 dirC W (slV t) L:=by
 obtain⟨L,hL⟩:=open_rows (E:=fun cs (a:Int×Int)=>cs=dirC a) 2 (by omega) Tryz.underlying35 (by kernel_rfl) h fun n cs y hl hy=>dir_openE hl hy
 have hE:=els_of_rows (size:=2) (cells:=dirC) (by decide) (fun _=>rfl) hL
 obtain⟨t,rfl⟩:=slc hE;exact⟨t,L,rfl,hE⟩
theorem row_openE{n:Nat}{cs:List Value}{y:DataW H×List MemPlace}(hl:cs.length=8)(h:DataW.trod enc Tryz.prog W base sp held n 105 cs=some y):∃r:RowW,cs=r.cells∧r.old W:=by
 match cs,hl with
 | [c0,c1,c2,c3,c4,c5,c6,c7],_=>
   obtain⟨⟨z0,m0,g0⟩,⟨z1,m1,g1⟩,⟨z2,m2,g2⟩,⟨z3,m3,g3⟩,⟨z4,m4,g4⟩,⟨z5,m5,g5⟩,⟨z6,m6,g6⟩,⟨z7,m7,g7⟩⟩:=trod_fields8 Tryz.underlying105 h;simp only[one_int,one_ints,one_locks,List.drop_succ_cons,List.drop_zero,List.take_succ_cons,List.take_zero]at g0 g1 g2 g3 g4 g5 g6 g7;obtain⟨k0,e0,_,_⟩:=DataW.trod_int Tryz.underlying3 g0;obtain⟨k1,e1,_,_⟩:=DataW.trod_int Tryz.underlying3 g1;obtain⟨k2,e2,_,_⟩:=DataW.trod_int Tryz.underlying3 g2;obtain⟨k3,e3,_,_⟩:=DataW.trod_int Tryz.underlying3 g3;obtain⟨k4,e4,_,_⟩:=DataW.trod_int Tryz.underlying3 g4;obtain⟨k5,e5,_,_⟩:=DataW.trod_int Tryz.underlying3 g5;obtain⟨t6,L6,e6,h6⟩:=ints_openE g6;obtain⟨t7,L7,e7,h7⟩:=locks_openE g7;simp only[List.cons.injEq,and_true]at e0 e1 e2 e3 e4 e5;subst e0 e1 e2 e3 e4 e5 e6 e7;exact⟨⟨⟨k0,k1,k2,k3,k4,k5,L6,L7⟩,t6,t7⟩,rfl,h6,h7⟩
theorem deed_openE{n:Nat}{cs:List Value}{y:DataW H×List MemPlace}(hl:cs.length=2)(h:DataW.trod enc Tryz.prog W base sp held n 107 cs=some y):∃r:DeedV,cs=r.cells∧Els 1 intC W (slV r.mem) r.p.2:=by
 match cs,hl with
 | [c0,c1],_=>
   obtain⟨⟨y0,m0,g0⟩,⟨y1,m1,g1⟩⟩:=trod_fields2 Tryz.underlying107 h;simp only[one_int,one_ints,List.drop_succ_cons,List.drop_zero,List.take_succ_cons,List.take_zero]at g0 g1;obtain⟨k0,e0,_,_⟩:=DataW.trod_int Tryz.underlying3 g0;obtain⟨t1,L1,e1,h1⟩:=ints_openE g1;simp only[List.cons.injEq,and_true]at e0;subst e0 e1;exact⟨⟨(k0,L1),t1⟩,rfl,h1⟩
theorem rows_openE{n:Nat}{v:Value}{y:DataW H×List MemPlace}(h:DataW.trod enc Tryz.prog W base sp held n 34 [v]=some y):∃(t:SlT) (L:List RowW),v=slV t∧Els 8 RowW.cells W (slV t) L∧∀q∈L,q.old W:=by
 obtain⟨L,hL⟩:=open_rows (E:=fun cs (a:RowW)=>cs=a.cells∧a.old W) 8 (by omega) Tryz.underlying34 eight_row h fun n cs y hl hy=>row_openE hl hy
 obtain⟨hE,hq⟩:=els_of_rowsP (size:=8) (cells:=RowW.cells) (Q:=fun a=>a.old W) (by decide) (fun _=>rfl) hL
 obtain⟨t,rfl⟩:=slc hE;exact⟨t,L,rfl,hE,hq⟩
theorem deeds_openE{n:Nat}{v:Value}{y:DataW H×List MemPlace}(h:DataW.trod enc Tryz.prog W base sp held n 36 [v]=some y):∃(t:SlT) (L:List DeedV),v=slV t∧Els 2 DeedV.cells W (slV t) L∧∀q∈L,Els 1 intC W (slV q.mem) q.p.2:=by
 obtain⟨L,hL⟩:=open_rows (E:=fun cs (a:DeedV)=>cs=a.cells∧Els 1 intC W (slV a.mem) a.p.2) 2 (by omega) Tryz.underlying36 two_deed h fun n cs y hl hy=>deed_openE hl hy
 obtain⟨hE,hq⟩:=els_of_rowsP (size:=2) (cells:=DeedV.cells) (Q:=fun a=>Els 1 intC W (slV a.mem) a.p.2) (by decide) (fun _=>rfl) hL
 obtain⟨t,rfl⟩:=slc hE;exact⟨t,L,rfl,hE,hq⟩
end
set_option maxRecDepth 100000
section
variable {H:Type} {enc:TypeId×Value→H} {W:World} {base:Nat} {sp:Nat→Bool} {held:Bool}
theorem rec_openE{n:Nat}{cs:List Value}{y:DataW H×List MemPlace}(hl:cs.length=16)(hf:DataW.trod enc Tryz.prog W base sp held n 38 cs=some y):∃r:RcW,cs=r.cells∧r.old W:=by
 obtain⟨d,p⟩:=y;obtain⟨⟨z0,m0,g0⟩,⟨z1,m1,g1⟩,⟨z2,m2,g2⟩,⟨z3,m3,g3⟩,⟨z4,m4,g4⟩,⟨z5,m5,g5⟩,⟨z6,m6,g6⟩,⟨z7,m7,g7⟩,⟨z8,m8,g8⟩,⟨z9,m9,g9⟩,⟨z10,m10,g10⟩,⟨z11,m11,g11⟩,⟨z12,m12,g12⟩,⟨z13,m13,g13⟩⟩:=trod_fields14 Tryz.underlying38 hf
 match cs,hl with
 | [c0,c1,c2,c3,c4,c5,c6,c7,c8,c9,c10,c11,c12,c13,c14,c15],_=>
   simp only[one_int,one_str,two_val,one_ints,one_locks,one_rows,one_dirty,one_deeds,List.drop_succ_cons,List.drop_zero,List.take_succ_cons,List.take_zero]at g0 g1 g2 g3 g4 g5 g6 g7 g8 g9 g10 g11 g12 g13;obtain⟨k0,e0,_,_⟩:=DataW.trod_int Tryz.underlying3 g0;obtain⟨k1,e1,_,_⟩:=DataW.trod_int Tryz.underlying3 g1;obtain⟨k2,e2,_,_⟩:=DataW.trod_int Tryz.underlying3 g2;obtain⟨k3,e3,_,_⟩:=DataW.trod_int Tryz.underlying3 g3;obtain⟨key,e4,_,_⟩:=DataW.trod_string Tryz.underlying9 g4;obtain⟨⟨za,ma,ga⟩,⟨zb,mb,gb⟩⟩:=trod_fields2 Tryz.underlying31 g5;obtain⟨⟨zc,mc,gc⟩,⟨zd,md,gd⟩⟩:=trod_fields2 Tryz.underlying31 g6;simp only[one_bool,one_str,List.drop_succ_cons,List.drop_zero,List.take_succ_cons,List.take_zero]at ga gb gc gd;obtain⟨oh,ea,_⟩:=DataW.trod_bool Tryz.underlying4 ga;obtain⟨od,eb,_,_⟩:=DataW.trod_string Tryz.underlying9 gb;obtain⟨nh,ec,_⟩:=DataW.trod_bool Tryz.underlying4 gc;obtain⟨nd,ed,_,_⟩:=DataW.trod_string Tryz.underlying9 gd;obtain⟨co,e7,_,_⟩:=DataW.trod_int Tryz.underlying3 g7;obtain⟨t1,L1,e8,h8⟩:=ints_openE g8;obtain⟨t2,L2,e9,h9⟩:=locks_openE g9;obtain⟨t3,L3,e10,h10,q10⟩:=rows_openE g10;obtain⟨t4,L4,e11,h11⟩:=dirs_openE g11;obtain⟨t5,L5,e12,h12,q12⟩:=deeds_openE g12;obtain⟨t6,L6,e13,h13⟩:=ints_openE g13;obtain⟨lk,el0⟩:=str_list key;obtain⟨lo,el1⟩:=str_list od;obtain⟨ln,el2⟩:=str_list nd;simp only[List.cons.injEq,and_true]at e0 e1 e2 e3 e4 ea eb ec ed e7;rw[el0]at e4;rw[el1]at eb;rw[el2]at ed;subst e0 e1 e2 e3 e4 ea eb ec ed e7 e8 e9 e10 e11 e12 e13;exact⟨⟨⟨k0,k1,k2,k3,lk,oh,lo,nh,ln,co,L1,L2,L3.map (·.p),L4,L5.map (·.p),L6⟩,⟨t1,t2,t3,t4,t5,t6⟩⟩,rfl,⟨h8,h9,⟨L3,h10,rfl,q10⟩,h11,⟨L5,h12,rfl,q12⟩,h13⟩⟩
theorem open_recs{r:Reach}{b0:Nat}{v:Value}{d:DataW H}{p:List MemPlace}(hv:Value.okWide Tryz.prog W r b0 51 v)(h:DataW.Trod enc Tryz.prog W base sp held 51 v d p):
 ∃(A:Option Addr) (n c:Nat) (L:List RcW),v= .slice A n c∧L.length=n∧Els 16 RcW.cells W (.slice A n c) L∧∀q∈L,q.old W:=by
 obtain⟨A,n,c,rfl⟩:=okWide_slice Tryz.underlying51 hv;obtain⟨fuel,hf⟩:=h;obtain⟨L,hL⟩:=open_rows (E:=fun cs (a:RcW)=>cs=a.cells∧a.old W) 16 (by omega) Tryz.underlying51 sixteen_rec hf fun n cs y hl hy=>rec_openE hl hy
 obtain⟨hE,hq⟩:=els_of_rowsP (size:=16) (cells:=RcW.cells) (Q:=fun a=>a.old W) (by decide) RcW.len hL
 have hE':=hE;obtain⟨A',c',e,_⟩:=hE';injection e with e1 e2 e3
 exact⟨A,n,c,L,rfl,e2.symm,hE,hq⟩
end
abbrev laid0:List (String×DataW Unit):=[("troth/crc.half",Rows.laid_troth_crc_half)]
def halfZ:List Int:=[0,498536548,997073096,651767980,1994146192,1802195444,1303535960,1342533948,3988292384,4027552580,3604390888,3412177804,2607071920,2262029012,2685067896,3183342108]
theorem half_of_laid{W:World}(h:laidMetH Tryz.prog laid0 W):HalfW W:=by
 rw[MakeChecks.laidMetH_plain _ _ _ (by kernel_rfl)]at h
 obtain⟨ps,⟨g,t,cs,fuel,p,q,hg,ht,hv,hd,_,_⟩,_,_⟩:=h;obtain rfl:=Option.some.inj ((show Tryz.prog.globalNamed "troth/crc.half"=some 0 by kernel_rfl).symm.trans hg)
 obtain rfl:=Option.some.inj ((show(Tryz.prog.globals[0]?).map (·.type)=some 256 by kernel_rfl).symm.trans ht)
 obtain⟨xs,m,_,ex,hcl,hl,hel⟩:=DataW.trod_array Tryz.underlying256 hd;have c5:Tryz.prog.cellsOf 251=1:=by kernel_rfl
 have e3:(xs.map (·.1))=halfZ.map fun n=> .lit (.int .u32 n):=(DataW.agg.inj (Prod.mk.inj ex).1).symm
 have hn:Tryz.prog.cellsOf 256=16:=by kernel_rfl
 have hz16:halfZ.length=16:=rfl;have hLZ:halfV=halfZ.map (Value.int .u32):=rfl;rw[hn]at hcl
 have hcs:cs.toList=halfV:=by
  apply List.ext_getElem?;intro r;rw[hLZ,qgm];by_cases hr:r<16
  ·have hE:=hel r hr;rw[c5,Nat.mul_one,qeg (by omega)]at hE
   obtain⟨z,e1,e2,_⟩:=DataW.trod_int Tryz.underlying251 hE;have e4:(xs.map (·.1))[r]? =(halfZ.map fun n=>(DataW.lit (.int .u32 n):DataW Unit))[r]? :=by rw[e3]
   rw[qgm,qgm,qeg (by omega:r<xs.length),qeg (by omega:r<halfZ.length),e2]at e4
   simp only[Option.map_some,Option.some.injEq,DataW.lit.injEq,Lit.int.injEq,true_and]at e4;have h0:((cs.toList.drop r).take 1)[0]? =some (.int .u32 z):=by rw[e1];rfl
   rw[qeg (by omega:r<halfZ.length),←e4]
   simpa using h0
  ·rw[List.getElem?_eq_none (by omega),List.getElem?_eq_none (by omega)]
   rfl
 simp only[World.var?,hg,Option.bind_some]at hv;split at hv
 ·rename_i cs' ty fz hh
  simp only[Option.some.injEq]at hv;subst hv;exact⟨ty,fz,by rw[hh,←hcs]⟩
 ·cases hv
end Go.Proofs.YtljmmkjdlcfkpaaGreatDoor
