/-
  Arguments opened: a slice of bytes, a slice of structs, a parcel. Slices of structs that came in, opened. The package's table, as the row lays it.
-/
import Derived.Lib.SmallJoins
import Derived.Test.YtdfccegeihfdpaaGreatDoorAPgV
import Derived.Test.YtdfccegeihfdpaaGreatDoorAPost
import Derived.Test.YtdfccegeihfdpaaGreatDoorTie
import Derived.Test.YtdfccegeihfdpaaGreatDoorCards
import Derived.LaidMore
import Derived.Lay
namespace Go.Proofs.YtdfccegeihfdpaaGreatDoor
open Go Go.ChangeShapes Go.WideShapes Go.ChangeAt Go.RowKit
theorem list_choose{α:Type}{Q:Nat→α→Prop}:∀(n:Nat),(∀i,i<n→∃a,Q i a)→∃L:List α,L.length=n∧∀i a,L[i]? =some a→Q i a:=by
 intro n
 induction n with
 | zero=>intro _;exact⟨[],rfl,fun i a h=>by simp at h⟩
 | succ n ih=>
   intro h;obtain⟨L,hl,hL⟩:=ih fun i hi=>h i (by omega)
   obtain⟨a,ha⟩:=h n (by omega)
   refine⟨L++[a],by simp[hl],fun i b hb=> ?_⟩
   by_cases hi:i<n
   ·rw[qal (by omega)]at hb
    exact hL i b hb
   ·have hlt:=(qei.1 hb).1;simp at hlt;obtain rfl:i=n:=by omega
    rw[qar (by omega)]at hb
    simp[hl]at hb;subst hb;exact ha
def RowsAt{α:Type}(W:World)(size:Nat)(E:List Value→α→Prop)(v:Value)(L:List α):Prop:=
 ∃A c,v= .slice A L.length c∧L.length≤c∧c≤maxLen∧(0<L.length→∃b off,A=some ⟨b,off,none⟩∧b<W.heap.size∧
  ∀i a,L[i]? =some a→∃cs,cs.length=size∧E cs a∧∀j u,cs[j]? =some u→W.cell? ⟨b,off+i * size+j,none⟩=some u)
theorem addr_add(b off:Nat)(n:Nat):(⟨b,off,none⟩:Addr).add n=⟨b,off+n,none⟩:=by
 unfold Addr.add;split<;>simp_all
theorem cell_lt{W:World}{a:Addr}{v:Value}(h:W.cell? a=some v):a.block<W.heap.size∧a.spot=none:=by
 unfold World.cell? at h;split at h
 ·rename_i hh
  refine⟨lt_of_heap hh,?_⟩;split at h
  ·cases h
  ·rename_i hs;simpa using hs
 ·cases h
section
variable {H:Type} {enc:TypeId×Value→H} {P:Program} {W:World} {base:Nat} {held:Bool}
theorem open_rows{α:Type}{E:List Value→α→Prop}{t e:TypeId}{m:Nat}{v:Value}{y:DataW H×List MemPlace}{sp:Nat→Bool}(size:Nat)(hpos:0<size)(ht:P.underlying t=some (.slice e))(hc:P.cellsOf e=size)
 (h:DataW.trod enc P W base sp held m t [v]=some y) (hE:∀n cs y,cs.length=size→DataW.trod enc P W base sp held n e cs=some y→∃a:α,E cs a):∃L:List α,RowsAt W size E v L:=by
 rcases Deep.open_slice ht h with⟨e2,_⟩ | ⟨a,len,cap,k,n,D,Pl,e2,_,hl,hm,hk,_,hi⟩
 ·simp only[List.cons.injEq,and_true]at e2;subst e2;exact⟨[],none,0,rfl,qlr _,Nat.zero_le _,fun h=>absurd h (by simp)⟩
 ·simp only[List.cons.injEq,and_true]at e2;subst e2;have hlk:len≤k:=by rw[hk];split<;>omega
  obtain⟨L,hL,hQ⟩:=list_choose (Q:=fun i (x:α)=>∃cs,cs.length=size∧E cs x∧∀j,j<size→W.cell? ((a.add (i * size)).add j)=cs[j]?) len (fun i hi'=>by
   obtain⟨cs,h1,h2⟩:=hi i (by omega)
   rw[hc]at h1;obtain⟨_,h3,h4⟩:=World.cells?_some h1;obtain⟨x,hx⟩:=hE n cs _ h3 h2;exact⟨x,cs,h3,hx,h4⟩)
  subst hL;refine⟨L,some a,cap,rfl,hl,hm,fun h0=> ?_⟩
  obtain⟨cs0,hs0,_,hc0⟩:=hQ 0 L[0] (qeg h0);have h00:=hc0 0 hpos;rw[qeg (by omega:0<cs0.length)]at h00
  obtain⟨hb,hsp⟩:=cell_lt h00;obtain⟨b,off,s⟩:=a;have hs':s=none:=by simpa [Addr.add] using hsp
  subst hs';refine⟨b,off,rfl,by simpa [Addr.add] using hb,fun i x hx=> ?_⟩
  obtain⟨cs,h1,h2,h3⟩:=hQ i x hx;refine⟨cs,h1,h2,fun j u hj=> ?_⟩
  have hj':=(qei.1 hj).1;have h4:=h3 j (by omega)
  rw[addr_add,addr_add,hj]at h4;exact h4
end
theorem els_of_rows{α:Type}{W:World}{size:Nat}{cells:α→List Value}(hpos:0<size)(hc:∀a,(cells a).length=size){v:Value}{L:List α}(h:RowsAt W size (fun cs a=>cs=cells a) v L):Els size cells W v L:=by
 obtain⟨A,c,rfl,hlc,_,hat⟩:=h;refine⟨A,c,rfl,hlc,flatMap_len hc L,fun h0=> ?_⟩
 obtain⟨b,off,rfl,hb,hrow⟩:=hat h0;refine⟨_,rfl,hb,rfl,fun j u hj=> ?_⟩
 have hlt:=(qei.1 hj).1;rw[flatMap_len hc L]at hlt;have hi:j / size<L.length:=(Nat.div_lt_iff_lt_mul hpos).2 hlt;have hr:j % size<size:=Nat.mod_lt _ hpos;have hjj:j / size * size+j % size=j:=by rw[Nat.mul_comm];exact Nat.div_add_mod j size
 obtain⟨cs,_,rfl,hcell⟩:=hrow (j / size) L[j / size] (qeg hi);have hg:=flatMap_get hc (qeg hi) (j % size) hr;rw[hjj,hj]at hg;rw[addr_add,←hjj,←Nat.add_assoc];exact hcell _ u hg.symm
section
variable {H:Type} {enc:TypeId×Value→H} {P:Program} {W:World} {base:Nat} {sp:Nat→Bool} {held:Bool}
theorem open_els{α:Type}(size:Nat)(cells:α→List Value)(hpos:0<size)(hl:∀a,(cells a).length=size){t e:TypeId}{v:Value}{d:DataW H}{p:List MemPlace}{r:Reach}{b0:Nat}(ht:P.underlying t=some (.slice e))(hv:Value.okWide P W r b0 t v)(hc:P.cellsOf e=size)
 (h:DataW.Trod enc P W base sp held t v d p) (hE:∀n cs y,cs.length=size→DataW.trod enc P W base sp held n e cs=some y→∃a:α,cs=cells a):∃L:List α,Els size cells W v L:=by
 obtain⟨A,n,c,rfl⟩:=okWide_slice ht hv;obtain⟨fuel,hf⟩:=h;obtain⟨L,hL⟩:=open_rows (E:=fun cs a=>cs=cells a) size hpos ht hc hf hE
 exact⟨L,els_of_rows hpos hl hL⟩
theorem trod_fields2{t:TypeId}{f0 f1:Field}{fuel:Nat}{cs:List Value}{x:DataW H×List MemPlace}(ht:P.underlying t=some (.struct #[f0,f1]))(h:DataW.trod enc P W base sp held fuel t cs=some x):
 (∃y n,DataW.trod enc P W base sp held n f0.type ((cs.drop f0.offset).take (P.cellsOf f0.type))=some y)∧
   (∃y n,DataW.trod enc P W base sp held n f1.type ((cs.drop f1.offset).take (P.cellsOf f1.type))=some y):=by
 obtain⟨xs,n,_,rfl,hl,hlen,hf⟩:=DataW.trod_struct ht h
 match xs,hlen with
 | [y0,y1],_=>exact⟨⟨y0,n,by simpa using hf 0 f0 rfl⟩,⟨y1,n,by simpa using hf 1 f1 rfl⟩⟩
theorem trod_fields4{t:TypeId}{f0 f1 f2 f3:Field}{fuel:Nat}{cs:List Value}{x:DataW H×List MemPlace}(ht:P.underlying t=some (.struct #[f0,f1,f2,f3]))(h:DataW.trod enc P W base sp held fuel t cs=some x):
 (∃y n,DataW.trod enc P W base sp held n f0.type ((cs.drop f0.offset).take (P.cellsOf f0.type))=some y)∧
   (∃y n,DataW.trod enc P W base sp held n f1.type ((cs.drop f1.offset).take (P.cellsOf f1.type))=some y)∧
   (∃y n,DataW.trod enc P W base sp held n f2.type ((cs.drop f2.offset).take (P.cellsOf f2.type))=some y)∧
   (∃y n,DataW.trod enc P W base sp held n f3.type ((cs.drop f3.offset).take (P.cellsOf f3.type))=some y):=by
 obtain⟨xs,n,_,rfl,hl,hlen,hf⟩:=DataW.trod_struct ht h
 match xs,hlen with
 | [y0,y1,y2,y3],_=>exact⟨⟨y0,n,by simpa using hf 0 f0 rfl⟩,⟨y1,n,by simpa using hf 1 f1 rfl⟩,⟨y2,n,by simpa using hf 2 f2 rfl⟩,⟨y3,n,by simpa using hf 3 f3 rfl⟩⟩
end
theorem str_list(s:ByteArray):∃b:Bs,Value.string s=strV b:=by
 obtain⟨⟨l⟩⟩:=s;exact⟨l,rfl⟩
theorem one_int:Tryz.prog.cellsOf 3=1:=by kernel_rfl
theorem one_str:Tryz.prog.cellsOf 9=1:=by kernel_rfl
theorem one_bool:Tryz.prog.cellsOf 4=1:=by kernel_rfl
theorem two_val:Tryz.prog.cellsOf 32=2:=by kernel_rfl
set_option maxRecDepth 100000
theorem five_call:Tryz.prog.cellsOf 61=5:=by kernel_rfl
section
variable {H:Type} {enc:TypeId×Value→H} {W:World} {base:Nat} {sp:Nat→Bool} {held:Bool}
theorem pcall_open{n:Nat}{cs:List Value}{y:DataW H×List MemPlace}(hl:cs.length=5)(h:DataW.trod enc Tryz.prog W base sp held n 61 cs=some y):∃z:CaV,cs=z.cells:=by
 match cs,hl with
 | [c0,c1,c2,c3,c4],_=>
   obtain⟨⟨y0,m0,g0⟩,⟨y1,m1,g1⟩,⟨y2,m2,g2⟩,⟨y3,m3,g3⟩⟩:=trod_fields4 Tryz.underlying61 h;simp only[one_int,one_str,two_val,List.drop_succ_cons,List.drop_zero,List.take_succ_cons,List.take_zero]at g0 g1 g2 g3;obtain⟨k,e0,_,_⟩:=DataW.trod_int Tryz.underlying3 g0;obtain⟨n1,e1,_,_⟩:=DataW.trod_int Tryz.underlying3 g1;obtain⟨s,e2,_,_⟩:=DataW.trod_string Tryz.underlying9 g2;obtain⟨⟨ya,ma,ga⟩,⟨yb,mb,gb⟩⟩:=trod_fields2 Tryz.underlying32 g3;simp only[one_bool,one_str,List.drop_succ_cons,List.drop_zero,List.take_succ_cons,List.take_zero]at ga gb;obtain⟨b,ea,_⟩:=DataW.trod_bool Tryz.underlying4 ga;obtain⟨s2,eb,_,_⟩:=DataW.trod_string Tryz.underlying9 gb;obtain⟨l1,el1⟩:=str_list s;obtain⟨l2,el2⟩:=str_list s2;simp only[List.cons.injEq,and_true]at e0 e1 e2 ea eb;subst e0 e1 e2 ea eb;exact⟨⟨k,n1,l1,b,l2⟩,by rw[el1,el2];rfl⟩
theorem open_pcalls{r:Reach}{b0:Nat}{v:Value}{d:DataW H}{p:List MemPlace}(hv:Value.okWide Tryz.prog W r b0 55 v)(h:DataW.Trod enc Tryz.prog W base sp held 55 v d p):
 ∃(A:Option Addr) (n c:Nat) (L:List CaV),v= .slice A n c∧L.length=n∧Els 5 CaV.cells W (.slice A n c) L:=by
 obtain⟨A,n,c,rfl⟩:=okWide_slice Tryz.underlying55 hv;obtain⟨L,hE⟩:=open_els 5 CaV.cells (by decide) CaV.cells_len Tryz.underlying55 hv five_call h fun n cs y hl hy=>pcall_open hl hy
 have hE':=hE;obtain⟨A',c',e,_⟩:=hE';injection e with e1 e2 e3
 exact⟨A,n,c,L,rfl,e2.symm,hE⟩
end
abbrev laid0:List (String×DataW Unit):=[("troth/crc.half",Rows.laid_troth_crc_half)]
def halfZ:List Int:=[0,498536548,997073096,651767980,1994146192,1802195444,1303535960,1342533948,3988292384,4027552580,3604390888,3412177804,2607071920,2262029012,2685067896,3183342108]
theorem half_of_laid{W:World}(h:laidMetH Tryz.prog laid0 W):HalfW W:=by
 rw[MakeChecks.laidMetH_plain _ _ _ (by kernel_rfl)]at h
 obtain⟨ps,⟨g,t,cs,fuel,p,q,hg,ht,hv,hd,_,_⟩,_,_⟩:=h;obtain rfl:=Option.some.inj ((show Tryz.prog.globalNamed "troth/crc.half"=some 0 by kernel_rfl).symm.trans hg)
 obtain rfl:=Option.some.inj ((show(Tryz.prog.globals[0]?).map (·.type)=some 346 by kernel_rfl).symm.trans ht)
 obtain⟨xs,m,_,ex,hcl,hl,hel⟩:=DataW.trod_array Tryz.underlying346 hd;have c5:Tryz.prog.cellsOf 297=1:=by kernel_rfl
 have e3:(xs.map (·.1))=halfZ.map fun n=> .lit (.int .u32 n):=(DataW.agg.inj (Prod.mk.inj ex).1).symm
 have hn:Tryz.prog.cellsOf 346=16:=by kernel_rfl
 have hz16:halfZ.length=16:=rfl;have hLZ:halfV=halfZ.map (Value.int .u32):=rfl;rw[hn]at hcl
 have hcs:cs.toList=halfV:=by
  apply List.ext_getElem?;intro r;rw[hLZ,qgm];by_cases hr:r<16
  ·have hE:=hel r hr;rw[c5,Nat.mul_one,qeg (by omega)]at hE
   obtain⟨z,e1,e2,_⟩:=DataW.trod_int Tryz.underlying297 hE;have e4:(xs.map (·.1))[r]? =(halfZ.map fun n=>(DataW.lit (.int .u32 n):DataW Unit))[r]? :=by rw[e3]
   rw[qgm,qgm,qeg (by omega:r<xs.length),qeg (by omega:r<halfZ.length),e2]at e4
   simp only[Option.map_some,Option.some.injEq,DataW.lit.injEq,Lit.int.injEq,true_and]at e4;have h0:((cs.toList.drop r).take 1)[0]? =some (.int .u32 z):=by rw[e1];rfl
   rw[qeg (by omega:r<halfZ.length),←e4]
   simpa using h0
  ·rw[List.getElem?_eq_none (by omega),List.getElem?_eq_none (by omega)]
   rfl
 simp only[World.var?,hg,Option.bind_some]at hv;split at hv
 ·rename_i cs' ty fz hh
  simp only[Option.some.injEq]at hv;subst hv;exact⟨ty,fz,by rw[hh,←hcs]⟩
 ·cases hv
end Go.Proofs.YtdfccegeihfdpaaGreatDoor
