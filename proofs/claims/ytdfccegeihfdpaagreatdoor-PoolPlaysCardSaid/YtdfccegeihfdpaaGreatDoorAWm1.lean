/-
  The log and all below it: part 1 of 10 (merged by mergew.py).
-/
import Derived.Test.YtdfccegeihfdpaaGreatDoorALib
import Derived.Maps.OwnIn
import Derived.Test.YtdfccegeihfdpaaGreatDoorRows
import Derived.Deep.RegionLaw
set_option maxRecDepth 100000
set_option maxHeartbeats 2000000
namespace Go.Proofs.YtdfccegeihfdpaaGreatDoor
open Go Go.RowKit
def Els{α:Type}(sz:Nat)(cells:α→List Value)(w:World)(v:Value)(L:List α):Prop:=Reads w sz v L.length (L.flatMap cells)
theorem Reads.addr{w:World}{sz:Nat}{v:Value}{n:Nat}{xs:List Value}(h:Reads w sz v n xs)(h0:0<n):∃b off c,v= .slice (some ⟨b,off,none⟩) n c∧b<w.heap.size∧∀j u,xs[j]? =some u→w.cell? ⟨b,off+j,none⟩=some u:=by
 obtain⟨A,c,rfl,hc,hl,h⟩:=h;obtain⟨⟨b,off,sp⟩,rfl,hb,hs,hcell⟩:=h h0;have hs':sp=none:=hs;subst hs';refine⟨b,off,c,rfl,hb,fun j u hj=> ?_⟩
 rw[←hcell j u hj]
 congr 1
 unfold Addr.add;split
 ·simp[*]
 ·rfl
theorem flatMap_len{α:Type}{sz:Nat}{cells:α→List Value}(hc:∀a,(cells a).length=sz)(L:List α):(L.flatMap cells).length=L.length * sz:=by
 induction L with
 | nil=>simp
 | cons a L ih=>rw[List.flatMap_cons,qla,ih,hc,List.length_cons,Nat.succ_mul];omega
theorem flatMap_get{α:Type}{sz:Nat}{cells:α→List Value}(hc:∀a,(cells a).length=sz):∀{L:List α} {i:Nat} {a:α},L[i]? =some a→∀j,j<sz→(L.flatMap cells)[i * sz+j]? =(cells a)[j]? :=by
 intro L
 induction L with
 | nil=>intro i a h;simp at h
 | cons x L ih=>
   intro i a h j hj;rw[List.flatMap_cons]
   cases i with
   | zero=>
     have e:x=a:=by simpa using h
     subst e;rw[qal (by rw[hc];omega)]
     simp
   | succ i=>
     have h':L[i]? =some a:=by simpa using h
     rw[qar (by rw[hc,Nat.succ_mul];omega),hc,←ih h' j hj]
     congr 1
     rw[Nat.succ_mul];omega
section
variable {α:Type} {sz:Nat} {cells:α→List Value} {F:Nat→Prop} {w w':World} {v:Value} {L:List α}
theorem Els.upd(h:Els sz cells w v L)(hu:Upd F w w')(hn:∀k,v.ownBlock=some k→¬F k):Els sz cells w' v L:=Reads.upd h hu hn
theorem Els.alloc(h:Els sz cells w v L)(o:Obj):Els sz cells (w.alloc o) v L:=Reads.alloc h o
theorem Els.val(h:Els sz cells w v L):∃A c,v= .slice A L.length c∧L.length≤c:=Reads.val h
theorem Els.get(h:Els sz cells w v L)(hc:∀a,(cells a).length=sz){i:Nat}{a:α}(ha:L[i]? =some a):∃b off c,v= .slice (some ⟨b,off,none⟩) L.length c∧b<w.heap.size∧∀j,j<sz→w.cell? ⟨b,off+i * sz+j,none⟩=(cells a)[j]? :=by
 obtain⟨hi,_⟩:=qei.1 ha;obtain⟨b,off,c,rfl,hb,hcell⟩:=Reads.addr h (by omega)
 refine⟨b,off,c,rfl,hb,fun j hj=> ?_⟩
 have h1:=flatMap_get hc ha j hj;rw[qeg (by rw[hc];omega:j<(cells a).length)]at h1 ⊢
 rw[Nat.add_assoc];exact hcell _ _ h1
end
structure RowV where
 tx:Int
 st:Int
 first:Int
 last:Int
 undo:Int
 coord:Int
 am:Option Addr
 nm:Nat
 cm:Nat
 al:Option Addr
 nl:Nat
 cl:Nat
def RowV.cells(r:RowV):List Value:=[.int .i64 r.tx,.int .i64 r.st,.int .i64 r.first,.int .i64 r.last,.int .i64 r.undo,.int .i64 r.coord,.slice r.am r.nm r.cm,.slice r.al r.nl r.cl]
section
variable {w:World} {v:Value}
end
def least(b:Int)(l:List Int):Int:=l.foldl (fun a n=>if n<a then n else a) b
open Go Go.RowKit Go.MapKept
open Go.ChangeMaps (setBlock)
theorem setBlock_grown(w:World)(b:Nat)(o:Obj):w.grownBy (setBlock w b o) (some b):=
 ⟨rfl,rfl,rfl,by simp[setBlock],fun k hk he=>by
  simp only[setBlock];rw[Array.getElem?_setIfInBounds_ne (by intro e;subst e;exact he rfl)]⟩
theorem setBlock_at{w:World}{b:Nat}(h:b<w.heap.size)(o:Obj):(setBlock w b o).heap[b]? =some o:=by
 simp[setBlock,h]
def putF{α β:Type}[DecidableEq α](f:α→Option β)(a:α)(v:Option β):α→Option β:=fun x=>if x=a then v else f x
theorem putF_same{α β:Type}[DecidableEq α](f:α→Option β)(a:α)(v:Option β):putF f a v a=v:=by simp[putF]
theorem putF_other{α β:Type}[DecidableEq α](f:α→Option β){a x:α}(h:x≠a)(v:Option β):putF f a v x=f x:=by simp[putF,h]
structure KeyEnc{α:Type}(d:TypeDesc)(enc:α→Value):Prop where
 key:∀a,IsKey d (enc a)
 inj:∀{a b},enc a=enc b→a=b
theorem keyInt(k:IntKind):KeyEnc (.int k) (fun n:Int=> .int k n):=⟨fun _=>rfl,fun h=>by injection h⟩
def MapIs{α:Type}(enc:α→Value)(w:World)(b:Nat)(f:α→Option Value):Prop:=
 ∃es ck,w.heap[b]? =some (.map es ck)∧Stamped es ck∧(∀e∈es.toList,∃a,e.key=enc a)∧∀a v,f a=some v↔∃e∈es.toList,e.key=enc a∧e.val=v
section
variable {α:Type} {d:TypeDesc} {enc:α→Value} {w w':World} {b:Nat} {f:α→Option Value} {P:Program}
theorem MapIs.lt(h:MapIs enc w b f):b<w.heap.size:=by obtain⟨_,_,h,_⟩:=h;exact lt_of_heap h
theorem MapIs.new(w:World)(enc:α→Value):MapIs enc (w.alloc (.map #[] 0)) w.heap.size (fun _=>none):=
 ⟨#[],0,heap_alloc_new w _,stamped_empty _,by simp,by simp⟩
theorem MapIs.of_block(h:MapIs enc w b f)(hb:w'.heap[b]? =w.heap[b]?):MapIs enc w' b f:=by
 obtain⟨es,ck,h1,h2⟩:=h;exact⟨es,ck,hb.trans h1,h2⟩
theorem MapIs.upd{F:Nat→Prop}(h:MapIs enc w b f)(hu:Upd F w w')(hn:¬F b):MapIs enc w' b f:=h.of_block (hu.block _ h.lt hn)
theorem MapIs.alloc(h:MapIs enc w b f)(o:Obj):MapIs enc (w.alloc o) b f:=h.upd ((Upd.refl Nowhere w).alloc o) id
theorem MapIs.congr{g:α→Option Value}(h:MapIs enc w b f)(e:∀a,f a=g a):MapIs enc w b g:=by
 rw[show g=f from funext fun a=>(e a).symm];exact h
theorem MapIs.ne_blk{g:Nat}{t:TypeId}{cs:Array Value}(h:MapIs enc w b f)(hg:Blk w g t cs):b≠g:=by
 rintro rfl;obtain⟨_,_,h1,_⟩:=h;unfold Blk at hg;rw[hg]at h1
 cases h1
theorem MapIs.find(K:KeyEnc d enc){es:Array MapEntry}(hf:∀a v,f a=some v↔∃e∈es.toList,e.key=enc a∧e.val=v)(hk:∀e∈es.toList,∃a,e.key=enc a)(a:α):
 (f a=none∧Instr.findNow d (enc a) es.toList 0=some none∧∀x∈es.toList,x.key≠enc a)∨
 ∃j e,f a=some e.val∧Instr.findNow d (enc a) es.toList 0=some (some (j,e.val))∧es.toList[j]? =some e∧e.key=enc a:=by
 rcases findNow_spec (K.key a) es.toList 0 (fun x hx=>by obtain⟨c,hc⟩:=hk x hx;rw[hc];exact K.key c) with⟨h1,h2⟩ | ⟨j,e,h1,h2,h3⟩
 ·refine .inl ⟨?_,h1,h2⟩
  cases h:f a with
  | none=>rfl
  | some v=>
    obtain⟨e,he,hk',_⟩:=(hf a v).1 h;exact absurd hk' (h2 e he)
 ·rw[Nat.zero_add]at h1;exact .inr ⟨j,e,(hf a _).2 ⟨e,qmg h2,h3,rfl⟩,h1,h2,h3⟩
theorem run_checkKey'{kt:TypeId}(hk:P.underlying kt=some d)(K:KeyEnc d enc)(a:α)(e:Bool)(w:World):(Instr.checkKey e 10000 kt (enc a)).run P w= .ok () w:=MapKept.run_checkKey hk (K.key a) e 9999
theorem MapIs.look(h:MapIs enc w b f)(K:KeyEnc d enc){t kt et:TypeId}(ht:P.underlying t=some (.map kt et))(hk:P.underlying kt=some d){z:Value}(hz:(zeroValue et).run P w= .ok z w)(a:α)(c:Bool):
 (Instr.lookup t (.map (some b)) (enc a) c).run P w= .ok (if c then .tuple #[(f a).getD z,.bool (f a).isSome] else (f a).getD z) w:=by
 obtain⟨es,ck,h1,h2,h3,h4⟩:=h
 rcases MapIs.find K h4 h3 a with⟨e1,e2,_⟩ | ⟨j,e,e1,e2,_⟩
 ·rw[e1]
  cases c<;>simp[Instr.lookup,run_underlying ht,MapKept.run_getObj_map h1,run_checkKey' hk K,MapKept.run_findKey hk e2,Result.andThen,hz]
 ·rw[e1]
  cases c<;>simp[Instr.lookup,run_underlying ht,MapKept.run_getObj_map h1,run_checkKey' hk K,MapKept.run_findKey hk e2,Result.andThen]
theorem nodup_key{es:List MapEntry}(h:(es.map (·.key)).Nodup){i j:Nat}{e e':MapEntry}(hi:es[i]? =some e)(hj:es[j]? =some e')(he:e.key=e'.key):i=j:=by
 obtain⟨hi1,hi2⟩:=qei.1 hi;obtain⟨hj1,hj2⟩:=qei.1 hj;exact(List.getElem_inj (h₀:=by simpa using hi1) (h₁:=by simpa using hj1) h).1 (by simp[hi2,hj2,he])
theorem mem_modify{es:Array MapEntry}{j:Nat}{e0:MapEntry}{g:MapEntry→MapEntry}(h0:es.toList[j]? =some e0)(x:MapEntry):
 x∈(es.modify j g).toList↔x=g e0∨∃i,i≠j∧es.toList[i]? =some x:=by
 constructor
 ·intro hx;obtain⟨i,hi⟩:=List.mem_iff_getElem?.1 hx;rw[Array.getElem?_toList,Array.getElem?_modify]at hi;by_cases hij:j=i
  ·subst hij;rw[Array.getElem?_toList]at h0;simp[h0]at hi;exact .inl hi.symm
  ·rw[if_neg hij]at hi;exact .inr ⟨i,fun e=>hij e.symm,by rw[Array.getElem?_toList];exact hi⟩
 ·rintro(rfl | ⟨i,hij,hi⟩)
  ·refine List.mem_iff_getElem?.2 ⟨j,?_⟩;rw[Array.getElem?_toList]at h0 ⊢;rw[Array.getElem?_modify,if_pos rfl,h0];rfl
  ·refine List.mem_iff_getElem?.2 ⟨i,?_⟩;rw[Array.getElem?_toList]at hi ⊢;rw[Array.getElem?_modify,if_neg (fun e=>hij e.symm),hi]
variable [DecidableEq α]
theorem MapIs.store(h:MapIs enc w b f)(K:KeyEnc d enc){t kt et:TypeId}(ht:P.underlying t=some (.map kt et))(hk:P.underlying kt=some d)(a:α)(v:Value):
 ∃w',(Instr.mapUpdate t (.map (some b)) (enc a) v).run P w= .ok () w'∧MapIs enc w' b (putF f a (some v))∧w.grownBy w' (some b)∧w'.heap.size=w.heap.size:=by
 obtain⟨es,ck,h1,h2,h3,h4⟩:=h
 rcases MapIs.find K h4 h3 a with⟨e1,e2,e3⟩ | ⟨j,e,e1,e2,e3,e4⟩
 ·refine⟨setBlock w b (.map (es.push { key:=enc a,val:=v,born:=ck }) (ck+1)),?_,⟨_,_,setBlock_at (lt_of_heap h1) _,stamped_push h2 e3,?_,?_⟩,setBlock_grown _ _ _,by simp[setBlock]⟩
  ·simp[Instr.mapUpdate,run_underlying ht,MapKept.run_getObj_map h1,run_checkKey' hk K,MapKept.run_findKey hk e2,MapKept.run_setObj_map _ h1,Result.andThen,setBlock]
  ·intro x hx;simp only[Array.toList_push,qma,List.mem_singleton]at hx
   rcases hx with hx | rfl
   ·exact h3 x hx
   ·exact⟨a,rfl⟩
  ·intro c u;unfold putF;by_cases hc:c=a
   ·subst hc;rw[if_pos rfl];constructor
    ·intro hh
     cases hh;exact⟨{ key:=enc c,val:=v,born:=ck },by simp,rfl,rfl⟩
    ·rintro⟨x,hx,hx1,hx2⟩;simp only[Array.toList_push,qma,List.mem_singleton]at hx
     rcases hx with hx | rfl
     ·exact absurd hx1 (e3 x hx)
     ·rw[←hx2]
   ·rw[if_neg hc,h4];constructor
    ·rintro⟨x,hx,hx1,hx2⟩;exact⟨x,by simp only[Array.toList_push,qma];exact .inl hx,hx1,hx2⟩
    ·rintro⟨x,hx,hx1,hx2⟩;simp only[Array.toList_push,qma,List.mem_singleton]at hx
     rcases hx with hx | rfl
     ·exact⟨x,hx,hx1,hx2⟩
     ·exact absurd (K.inj hx1.symm) hc
 ·have hj:es[j]? =some e:=by rw[←Array.getElem?_toList];exact e3
  have hst:(Instr.keyThatStays (enc a) (enc a)).run P w= .ok (enc a) w:=MapKept.run_keyThatStays (K.key a);refine⟨setBlock w b (.map (es.modify j fun x=>{ x with key:=enc a,val:=v }) ck),?_,⟨_,_,setBlock_at (lt_of_heap h1) _,stamped_modify h2 j _ (fun _ _=>rfl) (fun x _ hx=> ?_),?_,?_⟩,setBlock_grown _ _ _,by simp[setBlock]⟩
  ·simp[Instr.mapUpdate,run_underlying ht,MapKept.run_getObj_map h1,run_checkKey' hk K,MapKept.run_findKey hk e2,hj,e4,hst,MapKept.run_setObj_map _ h1,Result.andThen,setBlock]
  ·rw[hj]at hx;cases hx;exact e4.symm
  ·intro x hx
   rcases(mem_modify e3 x).1 hx with rfl | ⟨i,_,hi⟩
   ·exact⟨a,rfl⟩
   ·exact h3 x (qmg hi)
  ·intro c u;unfold putF;by_cases hc:c=a
   ·subst hc;rw[if_pos rfl];constructor
    ·intro hh
     cases hh;exact⟨_,(mem_modify e3 _).2 (.inl rfl),rfl,rfl⟩
    ·rintro⟨x,hx,hx1,hx2⟩
     rcases(mem_modify e3 x).1 hx with rfl | ⟨i,hij,hi⟩
     ·rw[←hx2]
     ·exact absurd (nodup_key h2.2.2 hi e3 (hx1.trans e4.symm)) hij
   ·rw[if_neg hc,h4];constructor
    ·rintro⟨x,hx,hx1,hx2⟩;obtain⟨i,hi⟩:=List.mem_iff_getElem?.1 hx;refine⟨x,(mem_modify e3 x).2 (.inr ⟨i,?_,hi⟩),hx1,hx2⟩;rintro rfl;rw[e3]at hi;cases hi;exact hc (K.inj (hx1.symm.trans e4))
    ·rintro⟨x,hx,hx1,hx2⟩
     rcases(mem_modify e3 x).1 hx with rfl | ⟨i,hij,hi⟩
     ·exact absurd (K.inj hx1.symm) hc
     ·exact⟨x,qmg hi,hx1,hx2⟩
theorem mem_erase{es:Array MapEntry}{j:Nat}{e0:MapEntry}(h0:es.toList[j]? =some e0)(x:MapEntry):
 x∈(es.eraseIdxIfInBounds j).toList↔∃i,i≠j∧es.toList[i]? =some x:=by
 have hj:j<es.size:=by simpa using(qei.1 h0).1
 have e:(es.eraseIdxIfInBounds j).toList=es.toList.eraseIdx j:=by simp[Array.eraseIdxIfInBounds,hj]
 rw[e,List.mem_eraseIdx_iff_getElem?]
theorem MapIs.del(h:MapIs enc w b f)(K:KeyEnc d enc){t kt et ty:TypeId}{ts:Array TypeId}(hts:ts[0]? =some t)(ht:P.underlying t=some (.map kt et))(hk:P.underlying kt=some d)(a:α):
 ∃w',(Builtin.delete_ ts ty #[.map (some b),enc a]).run P w= .ok (.tuple #[]) w'∧MapIs enc w' b (putF f a none)∧w.grownBy w' (some b)∧w'.heap.size=w.heap.size:=by
 obtain⟨es,ck,h1,h2,h3,h4⟩:=h
 rcases MapIs.find K h4 h3 a with⟨e1,e2,e3⟩ | ⟨j,e,e1,e2,e3,e4⟩
 ·refine⟨setBlock w b (.map es ck),?_,⟨_,_,setBlock_at (lt_of_heap h1) _,h2,h3,?_⟩,setBlock_grown _ _ _,by simp[setBlock]⟩
  ·simp[Builtin.delete_,hts,run_underlying ht,MapKept.run_getObj_map h1,run_checkKey' hk K,MapKept.run_findKey hk e2,MapKept.run_setObj_map _ h1,Result.andThen,setBlock]
  ·intro c u;unfold putF;by_cases hc:c=a
   ·subst hc;rw[if_pos rfl,←h4,e1]
   ·rw[if_neg hc,h4]
 ·refine⟨setBlock w b (.map (es.eraseIdxIfInBounds j) ck),?_,⟨_,_,setBlock_at (lt_of_heap h1) _,stamped_erase h2 j,?_,?_⟩,setBlock_grown _ _ _,by simp[setBlock]⟩
  ·simp[Builtin.delete_,hts,run_underlying ht,MapKept.run_getObj_map h1,run_checkKey' hk K,MapKept.run_findKey hk e2,MapKept.run_setObj_map _ h1,Result.andThen,setBlock]
  ·intro x hx;obtain⟨i,_,hi⟩:=(mem_erase e3 x).1 hx;exact h3 x (qmg hi)
  ·intro c u;unfold putF;by_cases hc:c=a
   ·subst hc;rw[if_pos rfl];constructor
    ·intro hh;cases hh
    ·rintro⟨x,hx,hx1,hx2⟩;obtain⟨i,hij,hi⟩:=(mem_erase e3 x).1 hx;exact absurd (nodup_key h2.2.2 hi e3 (hx1.trans e4.symm)) hij
   ·rw[if_neg hc,h4];constructor
    ·rintro⟨x,hx,hx1,hx2⟩;obtain⟨i,hi⟩:=List.mem_iff_getElem?.1 hx;refine⟨x,(mem_erase e3 x).2 ⟨i,?_,hi⟩,hx1,hx2⟩;rintro rfl;rw[e3]at hi;cases hi;exact hc (K.inj (hx1.symm.trans e4))
    ·rintro⟨x,hx,hx1,hx2⟩;obtain⟨i,_,hi⟩:=(mem_erase e3 x).1 hx;exact⟨x,qmg hi,hx1,hx2⟩
end
section
variable {P:Program} {ops:Array Oper} {rest:List Oper} {o:Oper} {a:Act} {Q:Exit→Act→World→Prop} {w:World}
theorem wpList_lookup_run(hg:o.guard=none)(m x:Operand)(t:TypeId)(c:Bool)(ho:o.op=Op.lookup t m x c){mv kv v:Value}
 (hm:a.eval m=mv) (hx:a.eval x=kv) (hrun:(Instr.lookup t mv kv c).run P w= .ok v w) (h:wpList P ops Q rest (a.put o.dst v) w):wpList P ops Q (o::rest) a w:=by
 refine wpList_plain hg fun K hK=> ?_
 unfold Oper.wp;simp only[execOp,ho,hm,hx,Sem.run_bind,hrun,Result.andThen,Sem.run_pure];exact hK _ _ h
theorem wpList_update_run(hg:o.guard=none)(m x y:Operand)(t:TypeId)(ho:o.op=Op.mapUpdate t m x y){mv kv v:Value}{w':World}
 (hm:a.eval m=mv) (hx:a.eval x=kv) (hy:a.eval y=v) (hrun:(Instr.mapUpdate t mv kv v).run P w= .ok () w') (h:wpList P ops Q rest (a.put o.dst undef) w'):wpList P ops Q (o::rest) a w:=by
 refine wpList_plain hg fun K hK=> ?_
 unfold Oper.wp;simp only[execOp,ho,hm,hx,hy,Sem.run_bind,hrun,Result.andThen,Sem.run_pure];exact hK _ _ h
theorem wpList_delete_run(hg:o.guard=none)(m x:Operand)(t k:TypeId)(ho:o.op=Op.call { callee:=Callee.builtin Builtin.delete,args:=#[m,x],argTypes:=#[t,k] }){mv kv:Value}{w':World}
 (hm:a.eval m=mv) (hx:a.eval x=kv) (hrun:(Builtin.delete_ #[t,k] o.type #[mv,kv]).run P w= .ok (.tuple #[]) w') (h:wpList P ops Q rest (a.put o.dst (.tuple #[])) w'):wpList P ops Q (o::rest) a w:=by
 refine wpList_plain hg fun K hK=> ?_
 unfold Oper.wp execOp;simp only[ho,resolve,invoke,builtin,Sem.run_bind,Sem.run_pure,Result.andThen_ok,List.map_toArray,List.map_cons,List.map_nil,hm,hx,hrun];exact hK _ _ h
end
def RangeIs{α:Type}(enc:α→Value)(w:World)(r b:Nat)(f:α→Option Value)(left:α→Prop)(cnt:Nat):Prop:=
 ∃es ck since seen c0,w.heap[b]? =some (.map es ck)∧Stamped es ck∧(∀e∈es.toList,∃a,e.key=enc a)∧(∀a v,f a=some v↔∃e∈es.toList,e.key=enc a∧e.val=v)∧
  w.heap[r]? =some (.mapIter (some b) since seen c0)∧(∀x∈es.toList,x.born<since)∧since≤c0∧since≤ck∧(leftOf es seen).size=cnt∧
  (∀x∈es.toList,∀a,x.key=enc a→(left a↔seen.contains x.born=false))∧(∀a,left a→∃x∈es.toList,x.key=enc a)
section
variable {α:Type} {d:TypeDesc} {enc:α→Value} {w w':World} {r b cnt:Nat} {f:α→Option Value} {left:α→Prop} {P:Program}
theorem RangeIs.map(h:RangeIs enc w r b f left cnt):MapIs enc w b f:=by
 obtain⟨es,ck,since,seen,c0,h1,h2,h3,h4,_⟩:=h;exact⟨es,ck,h1,h2,h3,h4⟩
theorem RangeIs.ne(h:RangeIs enc w r b f left cnt):r≠b:=by
 obtain⟨es,ck,since,seen,c0,h1,_,_,_,h2,_⟩:=h;rintro rfl;rw[h1]at h2;cases h2
theorem RangeIs.lt(h:RangeIs enc w r b f left cnt):r<w.heap.size:=by
 obtain⟨es,ck,since,seen,c0,h1,_,_,_,h2,_⟩:=h;exact lt_of_heap h2
theorem RangeIs.left_eq(h:RangeIs enc w r b f left cnt):w.rangeLeft b r=cnt:=by
 obtain⟨es,ck,since,seen,c0,h1,_,_,_,h2,_,_,_,h3,_⟩:=h;simp only[World.rangeLeft,h1,h2];exact h3
theorem RangeIs.kept(h:RangeIs enc w r b f left cnt)(hb:w'.heap[b]? =w.heap[b]?)(hr:w'.heap[r]? =w.heap[r]?):RangeIs enc w' r b f left cnt:=by
 obtain⟨es,ck,since,seen,c0,h1,h2,h3,h4,h5,rest⟩:=h;exact⟨es,ck,since,seen,c0,hb.trans h1,h2,h3,h4,hr.trans h5,rest⟩
theorem RangeIs.upd{F:Nat→Prop}(h:RangeIs enc w r b f left cnt)(hu:Upd F w w')(hb:¬F b)(hr:¬F r):RangeIs enc w' r b f left cnt:=
 h.kept (hu.block _ h.map.lt hb) (hu.block _ h.lt hr)
theorem RangeIs.mono{left':α→Prop}(h:RangeIs enc w r b f left cnt)(e:∀a,left' a↔left a):RangeIs enc w r b f left' cnt:=by
 rw[show left'=left from funext fun a=>propext (e a)];exact h
theorem MapIs.range(h:MapIs enc w b f){t kt et:TypeId}(ht:P.underlying t=some (.map kt et)):
 ∃w' cnt,(Instr.range t (.map (some b))).run P w= .ok (.pointer (some ⟨w.heap.size,0,none⟩)) w'∧RangeIs enc w' w.heap.size b f (fun a=>f a≠none) cnt∧Upd Nowhere w w'∧w'.heap.size=w.heap.size+1:=by
 have hlt:=h.lt;obtain⟨es,ck,h1,h2,h3,h4⟩:=h;refine⟨_,es.size,run_range_map w t kt et b es ck ht h1,⟨es,ck,ck,#[],ck,((MapKept.heap_alloc w _).2 b hlt).trans h1,h2,h3,h4,(MapKept.heap_alloc w _).1,h2.1,qlr _,qlr _,?_,?_,?_⟩,(Upd.refl _ w).alloc _,by simp⟩
 ·simp[leftOf]
 ·intro x hx a ha;simp only[Array.contains_empty,iff_true];rw[(h4 a x.val).2 ⟨x,hx,ha,rfl⟩];simp
 ·intro a ha
  cases hf:f a with
  | none=>exact absurd hf ha
  | some v=>
    obtain⟨x,hx,hk,_⟩:=(h4 a v).1 hf;exact⟨x,hx,hk⟩
theorem RangeIs.next(h:RangeIs enc w r b f left cnt)(K:KeyEnc d enc)(ty:TypeId):
 (cnt=0∧(∀a,¬left a)∧(Instr.next (.pointer (some ⟨r,0,none⟩)) false ty).run P w= .ok (.tuple #[.bool false]) w)∨
 ∃a v w' cnt',f a=some v∧left a∧(Instr.next (.pointer (some ⟨r,0,none⟩)) false ty).run P w= .ok (.tuple #[.bool true,enc a,v]) w'∧RangeIs enc w' r b f (fun x=>left x∧x≠a) cnt'∧cnt'<cnt∧Upd (fun k=>k=r) w w'∧w'.heap.size=w.heap.size∧
  (Instr.entry (.pointer (some ⟨r,0,none⟩))).run P w'= .ok (.tuple #[enc a,v]) w':=by
 have hne:=h.ne;obtain⟨es,ck,since,seen,c0,hb,hst,h3,h4,hr,hold,hsc,hsk,hcnt,hl1,hl2⟩:=h
 rcases run_next_at (P:=P) w ty r b since c0 seen es ck hr hb hold hsc with⟨h0,hrun⟩ | ⟨e,he,w1,hal,hrun⟩
 ·refine .inl ⟨by omega,fun a ha=> ?_,hrun⟩
  obtain⟨x,hx,hk⟩:=hl2 a ha;have:=(hl1 x hx a hk).1 ha;rw[all_seen es seen h0 x hx]at this
  cases this
 ·obtain⟨hem,hes⟩:=mem_left he;obtain⟨a,ha⟩:=h3 e hem;have hr1:w1.heap[r]? =some (.mapIter (some b) since seen c0):=by rcases hal with rfl | rfl<;>exact hr
  have hb1:w1.heap[b]? =some (.map es ck):=by rcases hal with rfl | rfl<;>exact hb
  have hset:=heap_set (o':= .mapIter (some b) since (seen.push e.born) ck) hr1;have hb':(setBlock w1 r (.mapIter (some b) since (seen.push e.born) ck)).heap[b]? =some (.map es ck):=(hset.2 b (fun e1=>hne e1.symm)).trans hb1
  refine .inr ⟨a,e.val,_,_,(h4 a _).2 ⟨e,hem,ha,rfl⟩,(hl1 e hem a ha).2 hes,by rw[←ha];exact hrun,
   ⟨es,ck,since,seen.push e.born,ck,hb',hst,h3,h4,hset.1,hold,hsk,hsk,rfl,fun x hx c hc=> ?_,fun c hc=>hl2 c hc.1⟩,by rw[←hcnt];exact left_shrinks es seen e he,?_,?_,by
    rw[←ha];exact run_entry_at _ r b since seen es ck e hset.1 hb' hem hst.2.1⟩
  ·rw[contains_push];constructor
   ·rintro⟨hl,hca⟩;have h5:=(hl1 x hx c hc).1 hl
    have h6:(x.born == e.born)=false:=by
     cases hxe:(x.born == e.born) with
     | false=>rfl
     | true=>
       have:x=e:=born_inj hst.2.1 hx hem (by simpa using hxe)
       subst this;exact absurd (K.inj (hc.symm.trans ha)) hca
    rw[h5,h6];rfl
   ·intro h5;simp only[Bool.or_eq_false_iff]at h5;refine⟨(hl1 x hx c hc).2 h5.1,?_⟩;rintro rfl;have hkk:x.key=e.key:=hc.trans ha.symm;obtain⟨i,hi⟩:=List.mem_iff_getElem?.1 hx;obtain⟨j,hj⟩:=List.mem_iff_getElem?.1 hem;have hij:=nodup_key hst.2.2 hi hj hkk;subst hij;rw[hi]at hj
    cases hj;simp at h5
  ·rcases hal with rfl | rfl<;>exact⟨rfl,rfl,rfl,by simp[setBlock],fun i _ hi=>hset.2 i hi⟩
  ·rcases hal with rfl | rfl<;>simp[setBlock]
end
section
variable {P:Program} {ops:Array Oper} {rest:List Oper} {o:Oper} {a:Act} {Q:Exit→Act→World→Prop} {w:World}
theorem wpList_range_run(hg:o.guard=none)(m:Operand)(t:TypeId)(ho:o.op=Op.range t m){mv v:Value}{w':World}(hm:a.eval m=mv)(hrun:(Instr.range t mv).run P w= .ok v w')(h:wpList P ops Q rest (a.put o.dst v) w'):wpList P ops Q (o::rest) a w:=by
 refine wpList_plain hg fun K hK=> ?_
 unfold Oper.wp;simp only[execOp,ho,hm,Sem.run_bind,hrun,Result.andThen,Sem.run_pure];exact hK _ _ h
theorem wpList_next_run(hg:o.guard=none)(it:Operand)(ho:o.op=Op.next it false){iv v:Value}{w':World}(hm:a.eval it=iv)(hrun:(Instr.next iv false o.type).run P w= .ok v w')(h:wpList P ops Q rest (a.put o.dst v) w'):wpList P ops Q (o::rest) a w:=by
 refine wpList_plain hg fun K hK=> ?_
 unfold Oper.wp;simp only[execOp,ho,hm,Sem.run_bind,hrun,Result.andThen,Sem.run_pure];exact hK _ _ h
theorem wpList_next_is{α:Type}{d:TypeDesc}{enc:α→Value}(K:KeyEnc d enc)(hg:o.guard=none)(it:Operand)(ho:o.op=Op.next it false){r b cnt:Nat}{f:α→Option Value}{left:α→Prop}(hit:a.eval it= .pointer (some ⟨r,0,none⟩))(h:RangeIs enc w r b f left cnt)
 (hDone:cnt=0→(∀x,¬left x)→wpList P ops Q rest (a.put o.dst (.tuple #[.bool false])) w)
 (hMore:∀(x:α) (v:Value) (w':World) (cnt':Nat),f x=some v→left x→RangeIs enc w' r b f (fun y=>left y∧y≠x) cnt'→cnt'<cnt→Upd (fun k=>k=r) w w'→w'.heap.size=w.heap.size→(Instr.entry (.pointer (some ⟨r,0,none⟩))).run P w'= .ok (.tuple #[enc x,v]) w'→
   wpList P ops Q rest (a.put o.dst (.tuple #[.bool true,enc x,v])) w'):wpList P ops Q (o::rest) a w:=by
 rcases h.next (P:=P) K o.type with⟨h0,hno,hrun⟩ | ⟨x,v,w1,cnt1,hfa,hla,hrun,hR1,hlt,hu1,hsz1,hen⟩
 ·exact wpList_next_run hg it ho hit hrun (hDone h0 hno)
 ·exact wpList_next_run hg it ho hit hrun (hMore x v w1 cnt1 hfa hla hR1 hlt hu1 hsz1 hen)
end
structure RowK(P:Program)(TS TE:TypeId){α:Type}(cells:α→List Value)(sz:Nat):Prop where
 und:P.underlying TS=some (.slice TE)
 info:∃z bytes,(P.info? TE).map (fun i=>(i.zero,i.size,i.bytes))=some (some z,sz,bytes)∧z.cells.size=sz∧bytes≤1000
 len:∀a,(cells a).length=sz
 one:∀a,∀u∈cells a,u.oneCell'=true
 pos:0<sz
structure OwnR(TE:TypeId){α:Type}(cells:α→List Value)(sz:Nat)(B:Nat)(w:World)(v:Value)(L:List α):Prop where
 row:w.ownsRow 0 TE sz v L.length (L.flatMap cells)
 new:∀k,v.ownBlock=some k→B≤k
section
variable {P:Program} {TS TE:TypeId} {α:Type} {cells:α→List Value} {sz B:Nat} {w w':World} {v:Value} {L:List α}
theorem OwnR.nil(TE:TypeId){α:Type}(cells:α→List Value)(sz B:Nat)(w:World):OwnR TE cells sz B w (.slice none 0 0) []:=⟨World.ownsRow_nil _ _ _ _,fun _ h=>by cases h⟩
theorem OwnR.upd{F:Nat→Prop}(h:OwnR TE cells sz B w v L)(hu:Upd F w w')(hn:∀k,v.ownBlock=some k→¬F k):OwnR TE cells sz B w' v L:=⟨own_upd h.row hu hn,h.new⟩
theorem OwnR.alloc(h:OwnR TE cells sz B w v L)(o:Obj):OwnR TE cells sz B (w.alloc o) v L:=h.upd ((Upd.refl Nowhere w).alloc o) fun _ _=>id
theorem OwnR.far{B':Nat}(h:OwnR TE cells sz B w v L)(hb:∀k,v.ownBlock=some k→B'≤k):OwnR TE cells sz B' w v L:=⟨h.row,hb⟩
theorem OwnR.lt(h:OwnR TE cells sz B w v L){k:Nat}(hk:v.ownBlock=some k):k<w.heap.size:=own_lt h.row hk
theorem OwnR.els(h:OwnR TE cells sz B w v L):Els sz cells w v L:=Reads.of_own h.row
theorem OwnR.blk_ne{g t:Nat}{cs:Array Value}(h:OwnR TE cells sz B w v L)(hg:Blk w g t cs)(hne:TE≠t):v.ownBlock≠some g:=own_blk_ne h.row hg hne
theorem OwnR.is_cells(h:OwnR TE cells sz B w v L){k:Nat}(hk:v.ownBlock=some k):∃cs,w.heap[k]? =some (.cells cs TE (0,0)):=by
 rcases h.row.2 with⟨rfl,_⟩ | ⟨g,cap,cur,rfl,_,hh,_⟩
 ·cases hk
 ·have:g=k:=by simpa [Value.ownBlock] using hk
  subst this;exact⟨cur,hh⟩
theorem RowK.app(R:RowK P TS TE cells sz)(h:OwnR TE cells sz B w v L)(hB:B≤w.heap.size)(ty:TypeId)(ad:Addr)(m c:Nat)(K:List α)(hm:K.length=m)(hK:∀j u,(K.flatMap cells)[j]? =some u→w.cell? (ad.add j)=some u)(hn:L.length+m≤100000):
 ∃v' w',(Builtin.append_ #[TS,TS] ty #[v,.slice (some ad) m c]).run P w= .ok v' w'∧OwnR TE cells sz B w' v' (L++K)∧w.grownBy w' v.ownBlock∧(∀k,v'.ownBlock=some k→v.ownBlock=some k∨w.heap.size≤k):=by
 subst hm;obtain⟨z,bytes,hinfo,hzs,hby⟩:=R.info;obtain⟨i,hi,hz,hs,hb⟩:=info_parts hinfo
 have h1:∀u∈K.flatMap cells,u.oneCell'=true:=fun u hu=>by
  obtain⟨x,_,hx⟩:=List.mem_flatMap.1 hu;exact R.one x u hx
 obtain⟨v',w',hrun,ho,hg,_,hown⟩:=run_append_own_at (P:=P) w 0 TS ty TE i z sz bytes R.und hi hz hs hb hzs R.pos v L.length (L.flatMap cells) h.row ad K.length c (K.flatMap cells) (flatMap_len R.len K) hK h1 (by simp only[maxLen];omega)
  (Nat.le_trans (Nat.mul_le_mul hn hby) (by decide)) (Nat.zero_le _)
 refine⟨v',w',hrun,⟨by rw[List.flatMap_append,qla];exact ho,fun k hk=> ?_⟩,hg,fun k hk=> ?_⟩
 ·rcases hown with e | e
  ·exact h.new k (e▸hk)
  ·rw[e]at hk;simp at hk;omega
 ·rcases hown with e | e
  ·exact .inl (e▸hk)
  ·rw[e]at hk;simp at hk;exact .inr (by omega)
theorem RowK.app1(R:RowK P TS TE cells sz)(h:OwnR TE cells sz B w v L)(hB:B≤w.heap.size)(ty:TypeId)(x:α)(cs:Array Value)(hcs:cs.toList=cells x)(hn:L.length+1≤100000):
 ∃v' w',(Builtin.append_ #[TS,TS] ty #[v,.slice (some ⟨w.heap.size,0,none⟩) 1 1]).run P (w.alloc (.cells cs TE))= .ok v' w'∧OwnR TE cells sz B w' v' (L++[x])∧w.grownBy w' v.ownBlock∧(∀k,v'.ownBlock=some k→v.ownBlock=some k∨w.heap.size≤k):=by
 have hb:=Blk.new w TE cs
 obtain⟨v',w',h1,h2,h3,h4⟩:=R.app (h.alloc (.cells cs TE)) (by simp;omega) ty ⟨w.heap.size,0,none⟩ 1 1 [x] rfl (fun j u hj=>by
  have e:(⟨w.heap.size,0,none⟩:Addr).add j=⟨w.heap.size,j,none⟩:=by unfold Addr.add;split<;>simp_all
  rw[e,hb.cell j,←Array.getElem?_toList,hcs]
  simpa using hj) hn
 refine⟨v',w',h1,h2,(World.grownBy_alloc w _ _).trans h3,fun k hk=> ?_⟩
 rcases h4 k hk with e | e
 ·exact .inl e
 ·simp at e;exact .inr (by omega)
end
abbrev Bs:=List UInt8
def shortH(n:Nat):Bs:=if _h:n=0 then [] else shortH (n / 128)++[UInt8.ofNat (128+n % 128)]
termination_by n
decreasing_by omega
def shortB(n:Nat):Bs:=shortH (n / 128)++[UInt8.ofNat (n % 128)]
def takeGo(n i:Nat):Bs→Nat×Nat×Int
 | []=>(0,0,10)
 | c::l=>if i=0∧c=128 then (0,0,11) else if 2 ^ 57≤n then (0,0,12) else if c<128 then (n * 128+c.toNat % 128,i+1,0) else takeGo (n * 128+c.toNat % 128) (i+1) l
def takeShort(b:Bs):Nat×Nat×Int:=takeGo 0 0 b
theorem shortH_zero:shortH 0=[]:=by rw[shortH];simp
theorem shortH_pos{n:Nat}(h:n≠0):shortH n=shortH (n / 128)++[UInt8.ofNat (128+n % 128)]:=by rw[shortH];simp[h]
theorem u8_toNat{n:Nat}(h:n<256):(UInt8.ofNat n).toNat=n:=by simp[UInt8.toNat_ofNat'];omega
theorem take_shortH:∀(n:Nat),n<2 ^ 56→∀r,takeGo 0 0 (shortH n++r)=takeGo n (shortH n).length r:=by
 intro n
 induction n using Nat.strongRecOn with
 | ind n ih=>
   intro hn r;by_cases h0:n=0
   ·subst h0;rw[shortH_zero];rfl
   ·rw[shortH_pos h0,qaa,List.singleton_append,ih (n / 128) (by omega) (by omega),takeGo]
    have e1:(UInt8.ofNat (128+n % 128)).toNat=128+n % 128:=u8_toNat (by omega)
    have h1:¬((shortH (n / 128)).length=0∧UInt8.ofNat (128+n % 128)=128):=by
     rintro⟨a,b⟩;have h2:=congrArg UInt8.toNat b;rw[e1]at h2;have h3:(128:UInt8).toNat=128:=rfl;rw[h3]at h2;by_cases h4:n / 128=0
     ·omega
     ·rw[shortH_pos h4]at a;simp at a
    have h2:¬UInt8.ofNat (128+n % 128)<128:=by
     rw[UInt8.lt_iff_toNat_lt,e1];have h3:(128:UInt8).toNat=128:=rfl;omega
    rw[if_neg h1,if_neg (by omega),if_neg h2,e1]
    have h4:n / 128 * 128+(128+n % 128) % 128=n:=by omega
    rw[h4,qla];rfl
theorem take_shortB{n:Nat}(hn:n<2 ^ 63)(r:Bs):takeShort (shortB n++r)=(n,(shortB n).length,0):=by
 unfold takeShort shortB;rw[qaa,take_shortH _ (by omega),List.singleton_append,takeGo]
 have e1:(UInt8.ofNat (n % 128)).toNat=n % 128:=u8_toNat (by omega)
 have h1:¬((shortH (n / 128)).length=0∧UInt8.ofNat (n % 128)=128):=by
  rintro⟨_,b⟩;have h2:=congrArg UInt8.toNat b;rw[e1]at h2;have h3:(128:UInt8).toNat=128:=rfl;omega
 have h2:UInt8.ofNat (n % 128)<128:=by
  rw[UInt8.lt_iff_toNat_lt,e1];have h3:(128:UInt8).toNat=128:=rfl;omega
 rw[if_neg h1,if_neg (by omega),if_pos h2,e1]
 have h4:n / 128 * 128+n % 128 % 128=n:=by omega
 rw[h4];simp
theorem takeGo_shortH_part{n:Nat}(hn:n<2 ^ 56){p:Bs}(hp:p <+: shortH n):takeGo 0 0 p=(0,0,10):=by
 induction n using Nat.strongRecOn with
 | ind n ih=>
   by_cases h0:n=0
   ·subst h0;rw[shortH_zero,List.prefix_nil]at hp;subst hp;rfl
   ·by_cases hl:p.length≤(shortH (n / 128)).length
    ·refine ih (n / 128) (by omega) (by omega) ?_
     rw[shortH_pos h0]at hp;exact List.prefix_of_prefix_length_le hp (List.prefix_append _ _) hl
    ·have e:p=shortH n:=by
      refine hp.eq_of_length ?_;have h1:=hp.length_le;have h2:(shortH n).length=(shortH (n / 128)).length+1:=by rw[shortH_pos h0];simp
      omega
     have:=take_shortH n hn [];rw[List.append_nil]at this;rw[e,this];rfl
theorem take_shortB_part{n:Nat}(hn:n<2 ^ 63){p:Bs}(hp:p <+: shortB n)(hl:p.length<(shortB n).length):takeShort p=(0,0,10):=by
 refine takeGo_shortH_part (n:=n / 128) (by omega) ?_
 have h:(shortB n).length=(shortH (n / 128)).length+1:=by simp[shortB]
 exact List.prefix_of_prefix_length_le hp (List.prefix_append _ _) (by omega)
theorem shortB_pos(n:Nat):0<(shortB n).length:=by simp[shortB]
theorem shortH_len_le:∀{k n:Nat},n<128 ^ k→(shortH n).length≤k:=by
 intro k
 induction k with
 | zero=>intro n h;have:n=0:=by simpa using h
         subst this;simp[shortH_zero]
 | succ k ih=>
   intro n h;by_cases h0:n=0
   ·subst h0;simp[shortH_zero]
   ·rw[shortH_pos h0];have:n / 128<128 ^ k:=by rw[Nat.div_lt_iff_lt_mul (by omega),←Nat.pow_succ];exact h
    have:=ih this;simp;omega
theorem shortB_len_le{k n:Nat}(h:n<128 ^ (k+1)):(shortB n).length≤k+1:=by
 have h1:n / 128<128 ^ k:=by rw[Nat.div_lt_iff_lt_mul (by omega),←Nat.pow_succ];exact h
 have:=shortH_len_le h1;simp[shortB];omega
theorem shortB_small{n:Nat}(h:n<128):shortB n=[UInt8.ofNat n]:=by
 have e1:n / 128=0:=by omega
 have e2:n % 128=n:=by omega
 simp[shortB,e1,e2,shortH_zero]
abbrev RS:=Bs×Int
def numberB(b:Bs)(most:Nat):Nat×Nat×Int:=
 match takeShort b with
 | (n,k,e)=>if e≠0 then (0,0,e) else if most<n then (0,0,12) else (n,k,0)
def numR(most:Nat)(s:RS):Nat×RS:=
 if s.2≠0 then (0,s) else match numberB s.1 most with
 | (n,k,e)=>if e≠0 then (0,(s.1,e)) else (n,(s.1.drop k,0))
def flagR(s:RS):Bool×RS:=
 if s.2≠0 then (false,s) else match s.1 with
 | []=>(false,([],10))
 | c::l=>if 1<c then (false,(c::l,11)) else (c == 1,(l,0))
def textR(most:Nat)(s:RS):Bs×RS:=
 if s.2≠0 then ([],s) else match numberB s.1 most with
 | (n,k,e)=>if e≠0 then ([],(s.1,e)) else if s.1.length - k<n then ([],(s.1,10)) else ((s.1.drop k).take n,(s.1.drop (k+n),0))
def endR(s:RS):RS:=if s.2≠0 then s else if s.1=[] then s else (s.1,13)
def textB(s:Bs):Bs:=shortB s.length++s
def flagB(b:Bool):Bs:=[if b then 1 else 0]
theorem numberB_short{n most:Nat}(hn:n≤most)(hm:most<2 ^ 63)(r:Bs):numberB (shortB n++r) most=(n,(shortB n).length,0):=by
 unfold numberB;rw[take_shortB (by omega)]
 simp only[ne_eq,not_true_eq_false,if_false];rw[if_neg (by omega)]
theorem numberB_part{n most:Nat}(hn:n<2 ^ 63){p:Bs}(hp:p <+: shortB n)(hl:p.length<(shortB n).length):numberB p most=(0,0,10):=by
 unfold numberB;rw[take_shortB_part hn hp hl];simp
theorem numR_short{n most:Nat}(hn:n≤most)(hm:most<2 ^ 63)(r:Bs):numR most (shortB n++r,0)=(n,(r,0)):=by
 unfold numR;simp only[ne_eq,not_true_eq_false,if_false];rw[numberB_short hn hm];simp
theorem textR_text{s:Bs}{most:Nat}(hn:s.length≤most)(hm:most<2 ^ 63)(r:Bs):textR most (textB s++r,0)=(s,(r,0)):=by
 unfold textR textB;simp only[ne_eq,not_true_eq_false,if_false];rw[qaa,numberB_short hn hm];have h1:¬(shortB s.length++(s++r)).length - (shortB s.length).length<s.length:=by simp only[qla];omega
 have h2:(shortB s.length++(s++r)).drop ((shortB s.length).length+s.length)=r:=by
  rw[←qaa,List.drop_left' (by simp)]
 simp only[not_true_eq_false,if_false,if_neg h1];rw[h2,List.drop_left' rfl,List.take_left' rfl]
theorem flagR_flag(b:Bool)(r:Bs):flagR (flagB b++r,0)=(b,(r,0)):=by
 cases b<;>rfl
section
variable (sm:Bs→Bs)
def sealB(body:Bs):Bs:=textB body++sm (textB body)
def openB(b:Bs):Bs×Nat×Int:=
 match textR 4096 (b,0) with
 | (body,(l,e))=>if e≠0 then ([],0,e) else if l.length<4 then ([],0,10) else if sm (b.take (b.length - l.length))≠l.take 4 then ([],0,30) else (body,b.length - l.length+4,0)
theorem openB_seal(h4:∀l,(sm l).length=4){body:Bs}(hb:body.length≤4096)(r:Bs):openB sm (sealB sm body++r)=(body,(sealB sm body).length,0):=by
 unfold openB sealB;rw[qaa,textR_text hb (by omega)]
 have e1:(textB body++(sm (textB body)++r)).length - (sm (textB body)++r).length=(textB body).length:=by simp only[qla];omega
 simp only[ne_eq,not_true_eq_false,if_false];rw[e1,if_neg (by rw[qla,h4];omega),List.take_left' rfl,List.take_left' (h4 _),if_neg (by simp),qla,h4]
theorem openB_part(h4:∀l,(sm l).length=4){body:Bs}(hb:body.length≤4096){p:Bs}(hp:p <+: sealB sm body)(hl:p.length<(sealB sm body).length):openB sm p=([],0,10):=by
 unfold openB;have hlen:(sealB sm body).length=(shortB body.length).length+body.length+4:=by simp only[sealB,textB,qla,h4]
 by_cases h1:p.length<(shortB body.length).length
 ·have hp1:p <+: shortB body.length:=by
   have:shortB body.length <+: sealB sm body:=by unfold sealB textB;rw[qaa];exact List.prefix_append _ _
   exact List.prefix_of_prefix_length_le hp this (by omega)
  have:textR 4096 (p,0)=([],(p,10)):=by
   unfold textR;simp only[ne_eq,not_true_eq_false,if_false];rw[numberB_part (by omega) hp1 h1]
   simp
  rw[this];simp
 ·obtain⟨q,hq⟩:=hp
  have hq1:shortB body.length <+: p:=by
   have:shortB body.length <+: sealB sm body:=by unfold sealB textB;rw[qaa];exact List.prefix_append _ _
   exact List.prefix_of_prefix_length_le this ⟨q,hq⟩ (by omega)
  obtain⟨r,rfl⟩:=hq1
  have hr:r++q=body++sm (textB body):=by
   have:shortB body.length++(r++q)=shortB body.length++(body++sm (textB body)):=by rw[←qaa,hq];simp[sealB,textB]
   exact List.append_cancel_left this
  have hrl:r.length<body.length+4:=by simp only[qla]at hl;omega
  by_cases h2:r.length<body.length
  ·have:textR 4096 (shortB body.length++r,0)=([],(shortB body.length++r,10)):=by
    unfold textR;simp only[ne_eq,not_true_eq_false,if_false];rw[numberB_short hb (by omega)]
    simp only[not_true_eq_false,if_false];rw[if_pos (by simp only[qla];omega)]
   rw[this];simp
  ·have hb1:body <+: r:=List.prefix_of_prefix_length_le (l₃:=body++sm (textB body)) (List.prefix_append _ _) ⟨q,hr⟩ (by omega)
   obtain⟨t,rfl⟩:=hb1;have:=textR_text hb (by omega:4096<2 ^ 63) t
   unfold textB at this;rw[qaa]at this;rw[this];have ht:t.length<4:=by simp only[qla]at hrl;omega
   simp[ht]
end
theorem sealB_len{sm:Bs→Bs}(h4:∀l,(sm l).length=4)(body:Bs):(sealB sm body).length=(shortB body.length).length+body.length+4:=by simp only[sealB,textB,qla,h4]
def noughtsB:Bs:=List.replicate 256 0
structure DiskS where
 size:Nat
 syn:Int→Option Bs
 now:Int→Option Bs
 pend:List (Int×Bs)
 fuse:Int
 down:Bool
 syncs:Int
def DiskS.empty(n:Nat):DiskS:=⟨n,fun _=>none,fun _=>none,[],-1,false,0⟩
def DiskS.read(S:DiskS)(n:Int):Bs:=match S.now n with
 | some s=>s
 | none=>match S.syn n with
   | some s=>s
   | none=>noughtsB
def DiskS.gone(S:DiskS):Bool:=S.down || (S.fuse == 0)
def DiskS.stepE(S:DiskS):Int:=if S.gone then 40 else 0
def DiskS.step(S:DiskS):DiskS:=if S.gone then { S with down:=true } else { S with fuse:=if 0<S.fuse then S.fuse - 1 else S.fuse }
def DiskS.wrote(S:DiskS)(n:Int)(b:Bs):DiskS:={ S with now:=putF S.now n (some b),pend:=S.pend++[(n,b)] }
def DiskS.write(S:DiskS)(n:Int)(b:Bs):DiskS×Int:=if S.gone then (S.step,40) else (S.step.wrote n b,0)
def overF(f g:Int→Option Bs):Int→Option Bs:=fun k=>match f k with
 | some s=>some s
 | none=>g k
def DiskS.flushed(S:DiskS):DiskS:={ S with syn:=overF S.now S.syn,now:=fun _=>none,pend:=[],syncs:=S.syncs+1 }
def DiskS.sync(S:DiskS):DiskS×Int:=if S.gone then (S.step,40) else (S.step.flushed,0)
def nextMark(old:Bs):UInt8:=
 if (1:UInt8)≠old.getD 0 0∧(1:UInt8)≠old.getD 255 0 then 1 else if (2:UInt8)≠old.getD 0 0∧(2:UInt8)≠old.getD 255 0 then 2 else 3
def padB(n:Nat)(p:Bs):Bs:=p++List.replicate (n - p.length) 0
def wrapB(m:UInt8)(p:Bs):Bs:=m::(padB 254 p++[m])
def openS(s:Bs):Option Bs:=if s.getD 0 0=s.getD 255 0∧1≤s.getD 0 0∧s.getD 0 0≤3 then some ((s.drop 1).take 254) else none
def DiskS.put(S:DiskS)(n:Int)(p:Bs):DiskS×Int:=if S.down then (S,40) else S.write n (wrapB (nextMark (S.read n)) p)
def DiskS.get(S:DiskS)(n:Int):Option Bs:=openS (S.read n)
theorem openS_wrap{m:UInt8}{p:Bs}(h1:1≤m)(h3:m≤3)(hp:p.length≤254):openS (wrapB m p)=some (padB 254 p):=by
 have hl:(padB 254 p).length=254:=by simp[padB];omega
 have e0:(wrapB m p).getD 0 0=m:=rfl;have e1:(wrapB m p).getD 255 0=m:=by simp[wrapB,List.getD_eq_getElem?_getD,hl]
 unfold openS;rw[e0,e1,if_pos ⟨rfl,h1,h3⟩]
 show some (((padB 254 p++[m])).take 254)=_
 rw[List.take_left' hl]
theorem wrapB_len(m:UInt8){p:Bs}(hp:p.length≤254):(wrapB m p).length=256:=by simp[wrapB,padB];omega
theorem nextMark_ok(old:Bs):1≤nextMark old∧nextMark old≤3∧nextMark old≠old.getD 0 0∧nextMark old≠old.getD 255 0:=by
 unfold nextMark;generalize old.getD 0 0=a;generalize old.getD 255 0=b;split
 ·rename_i h;exact⟨by decide,by decide,h.1,h.2⟩
 ·split
  ·rename_i h;exact⟨by decide,by decide,h.1,h.2⟩
  ·rename_i h1 h2
   refine⟨by decide,by decide,?_,?_⟩
   ·rintro rfl;by_cases hb:b=1
    ·subst hb;exact h2 ⟨by decide,by decide⟩
    ·exact h1 ⟨by decide,fun e=>hb e.symm⟩
   ·rintro rfl;by_cases hb:a=1
    ·subst hb;exact h2 ⟨by decide,by decide⟩
    ·exact h1 ⟨fun e=>hb e.symm,by decide⟩
structure MastS where
 gen:Int
 inc:Int
 first:Int
 lsn:Int
 check:Int
def MastS.list(m:MastS):List Int:=[m.gen,m.inc,m.first,m.lsn,m.check]
def MastS.may(m:MastS):Bool:=m.list.all (fun n=>decide (0≤n) && decide (n≤1099511627776)) && decide (0<m.gen)
def MastS.pay(m:MastS):Bs:=m.list.flatMap fun n=>shortB n.toNat
def DiskS.save(S:DiskS)(m:MastS):DiskS×Int:=
 match S.put (m.gen % 2) m.pay with
 | (S1,e)=>if e≠0 then (S1,e) else S1.sync
def num5(s:RS):List Nat×RS:=
 match numR 1099511627776 s with
 | (a,s)=>match numR 1099511627776 s with
   | (b,s)=>match numR 1099511627776 s with
     | (c,s)=>match numR 1099511627776 s with
       | (d,s)=>match numR 1099511627776 s with
         | (e,s)=>([a,b,c,d,e],s)
def mastOf:List Nat→MastS
 | [a,b,c,d,e]=>⟨a,b,c,d,e⟩
 | _=>⟨0,0,0,0,0⟩
def readM(p:Bs):MastS×Bool:=match num5 (p,0) with
 | (l,s)=>(mastOf l,s.2 == 0)
def lookM(S:DiskS)(n:Nat)(best:MastS):MastS:=match S.get n with
 | none=>best
 | some p=>if (readM p).2∧best.gen<(readM p).1.gen∧(readM p).1.gen % 2=n then (readM p).1 else best
def DiskS.load(S:DiskS):MastS:=lookM S 1 (lookM S 0 ⟨0,0,0,0,0⟩)
theorem MastS.may_nums{m:MastS}(h:m.may=true):(0≤m.gen∧m.gen≤1099511627776)∧(0≤m.inc∧m.inc≤1099511627776)∧(0≤m.first∧m.first≤1099511627776)∧(0≤m.lsn∧m.lsn≤1099511627776)∧(0≤m.check∧m.check≤1099511627776)∧0<m.gen:=by
 simp only[MastS.may,MastS.list,List.all_cons,List.all_nil,Bool.and_eq_true,decide_eq_true_eq]at h;omega
theorem num5_pay{m:MastS}(h:m.may=true)(r:Bs):num5 (m.pay++r,0)=(m.list.map Int.toNat,(r,0)):=by
 obtain⟨h1,h2,h3,h4,h5,_⟩:=MastS.may_nums h
 have e:m.pay++r=shortB m.gen.toNat++(shortB m.inc.toNat++(shortB m.first.toNat++(shortB m.lsn.toNat++(shortB m.check.toNat++r)))):=by
  simp[MastS.pay,MastS.list]
 unfold num5;rw[e,numR_short (by omega) (by omega)]
 simp only;rw[numR_short (by omega) (by omega)]
 simp only;rw[numR_short (by omega) (by omega)]
 simp only;rw[numR_short (by omega) (by omega)]
 simp only;rw[numR_short (by omega) (by omega)]
 rfl
theorem readM_pay{m:MastS}(h:m.may=true)(r:Bs):readM (m.pay++r)=(m,true):=by
 unfold readM;rw[num5_pay h r];obtain⟨h1,h2,h3,h4,h5,_⟩:=MastS.may_nums h
 have e:mastOf (m.list.map Int.toNat)=m:=by
  obtain⟨a,b,c,d,e⟩:=m;simp only at h1 h2 h3 h4 h5;simp only[MastS.list,List.map_cons,List.map_nil,mastOf,MastS.mk.injEq];omega
 show(mastOf (m.list.map Int.toNat),(0:Int) == 0)=_
 rw[e];rfl
structure SheetS where
 inc:Int
 pos:Int
 first:Int
 data:Bs
 deriving DecidableEq
def wide5(n:Nat):Bs:=[UInt8.ofNat (n / 2 ^ 32),UInt8.ofNat (n / 2 ^ 24),UInt8.ofNat (n / 2 ^ 16),UInt8.ofNat (n / 2 ^ 8),UInt8.ofNat n]
def unwide5(b:Bs):Nat:=(b.take 5).foldl (fun n c=>n * 256+c.toNat) 0
def SheetS.enc(s:SheetS):Bs:=wide5 s.inc.toNat++(wide5 s.pos.toNat++(UInt8.ofNat s.first.toNat::UInt8.ofNat s.data.length::s.data))
def decS(p:Bs):SheetS:=⟨unwide5 p,unwide5 (p.drop 5),(p.getD 10 0).toNat,(p.drop 12).take (p.getD 11 0).toNat⟩
def sheetOf(p:Bs):Option SheetS:=if p.length<12+(p.getD 11 0).toNat then none else if (decS p).first=255∨(decS p).first≤(decS p).data.length then some (decS p) else none
def byteC(b:UInt8):List Value:=[byteV b]
theorem byteC_len(a:UInt8):(byteC a).length=1:=rfl
theorem flat_byteC(l:Bs):l.flatMap byteC=bytesV l:=by
 induction l with
 | nil=>rfl
 | cons a l ih=>rw[List.flatMap_cons,ih];rfl
theorem byte_row:RowK Tryz.prog 143 5 byteC 1:=
 ⟨Tryz.underlying143,⟨.int .u8 0,1,by kernel_rfl,rfl,by omega⟩,fun _=>rfl,fun a u hu=>by
  obtain rfl:u=byteV a:=by simpa [byteC] using hu
  rfl,by omega⟩
abbrev BytesE:=Els 1 byteC
abbrev OwnB:=OwnR 5 byteC 1
section
variable {P:Program} {TS TE:TypeId} {α:Type} {cells:α→List Value} {sz B:Nat} {w w':World} {v v2:Value} {L K:List α}
theorem OwnR.drew(h:OwnR TE cells sz B w v L):OwnR TE cells sz B w.drew v L:=⟨h.row,h.new⟩
theorem OwnR.cap(h:OwnR TE cells sz B w v L):∃A c,v= .slice A L.length c∧L.length≤c:=h.els.val
theorem RowK.appE(R:RowK P TS TE cells sz)(h:OwnR TE cells sz B w v L)(hB:B≤w.heap.size)(ty:TypeId)(hK:Els sz cells w v2 K)(hn:L.length+K.length≤100000):
 ∃v' w',(Builtin.append_ #[TS,TS] ty #[v,v2]).run P w= .ok v' w'∧OwnR TE cells sz B w' v' (L++K)∧w.grownBy w' v.ownBlock∧(∀k,v'.ownBlock=some k→v.ownBlock=some k∨w.heap.size≤k):=by
 obtain⟨A2,c2,rfl,hc2,hl2,hr2⟩:=hK
 rcases A2 with _ | ad
 ·have h0:K.length=0:=by
   rcases Nat.eq_zero_or_pos K.length with h0 | h0
   ·exact h0
   ·obtain⟨ad,h,_⟩:=hr2 h0
    cases h
  obtain rfl:=List.length_eq_zero_iff.1 h0;obtain⟨z,bytes,hinfo,hzs,hby⟩:=R.info;obtain⟨i,hi,hz,hs,hb⟩:=info_parts hinfo;obtain⟨A,c,rfl,hc⟩:=h.cap;refine⟨.slice A L.length c,w,?_,by rw[List.append_nil];exact h,⟨rfl,rfl,rfl,qlr _,fun _ _ _=>rfl⟩,fun k hk=> .inl hk⟩
  cases A with
  | none=>simp[Builtin.append_,run_underlying R.und,sizeOf,typeInfo,hi,Builtin.lenOf,Builtin.firstCells,hc]
  | some a=>simp[Builtin.append_,run_underlying R.und,sizeOf,typeInfo,hi,Builtin.lenOf,Builtin.firstCells,storeCells,hc]
 ·have hcells:∀j u,(K.flatMap cells)[j]? =some u→w.cell? (ad.add j)=some u:=by
   intro j u hj;obtain⟨hj',_⟩:=qei.1 hj
   have hpos:0<K.length:=by
    rcases Nat.eq_zero_or_pos K.length with h0 | h0
    ·rw[List.length_eq_zero_iff.1 h0]at hj';simp at hj'
    ·exact h0
   obtain⟨ad',e,_,_,h⟩:=hr2 hpos;injection e with e
   subst e;exact h j u hj
  exact R.app h hB ty ad K.length c2 K rfl hcells hn
theorem RowK.app0(R:RowK P TS TE cells sz)(ty:TypeId)(A A2:Option Addr)(n c c2:Nat)(hn:n≤c):(Builtin.append_ #[TS,TS] ty #[.slice A n c,.slice A2 0 c2]).run P w= .ok (.slice A n c) w:=by
 obtain⟨z,bytes,hinfo,hzs,hby⟩:=R.info;obtain⟨i,hi,hz,hs,hb⟩:=info_parts hinfo
 cases A<;>cases A2<;>simp[Builtin.append_,run_underlying R.und,sizeOf,typeInfo,hi,Builtin.lenOf,Builtin.firstCells,storeCells,loadCells,loadCellsFrom,hn]
theorem RowK.appU(R:RowK P TS TE cells sz)(h:OwnR TE cells sz B w v L)(hB:B≤w.heap.size)(ty:TypeId)(hK:Els sz cells w v2 K)(hn:L.length+K.length≤100000):
 ∃A c w',(Builtin.append_ #[TS,TS] ty #[v,v2]).run P w= .ok (.slice A (L.length+K.length) c) w'∧OwnR TE cells sz B w' (.slice A (L.length+K.length) c) (L++K)∧Upd (fun k=>v.ownBlock=some k) w w':=by
 obtain⟨v',w',h1,h2,h3,h4⟩:=R.appE h hB ty hK hn;obtain⟨A,c,rfl,hc⟩:=h2.cap;rw[qla]at h1 h2;exact⟨A,c,w',h1,h2,(Upd.refl _ w).grown h3 fun k hk _=>hk⟩
end
theorem OwnR.lit{α:Type}(TE:TypeId)(cells:α→List Value)(sz B:Nat)(w:World)(hB:B≤w.heap.size):OwnR TE cells sz B (w.alloc (.cells #[] TE)) (.slice (some ⟨w.heap.size,0,none⟩) 0 0) []:=
 ⟨by
  refine⟨by simp,.inr ⟨w.heap.size,0,#[],rfl,Nat.zero_le _,heap_alloc_new w _,qlr _,by simp[maxLen],by simp,by simp⟩⟩,fun k hk=>by
  have:w.heap.size=k:=by simpa [Value.ownBlock] using hk
  omega⟩
theorem Els.part{α:Type}{sz:Nat}{cells:α→List Value}{w:World}{b off n c c':Nat}{L:List α}(hc:∀a,(cells a).length=sz)(h:Els sz cells w (.slice (some ⟨b,off,none⟩) n c) L)(i m:Nat)(hm:i+m≤L.length)(hcc:m≤c')(hb:b<w.heap.size):
 Els sz cells w (.slice (some ⟨b,off+i * sz,none⟩) m c') ((L.drop i).take m):=by
 obtain⟨A,c0,e,hc0,hl,hr⟩:=h;injection e with e1 e2 e3
 subst e2 e3;have hlen:((L.drop i).take m).length=m:=by simp;omega
 refine⟨_,c',by rw[hlen],by omega,flatMap_len hc _,fun h0=> ?_⟩
 obtain⟨ad,e,hb1,hs,hcell⟩:=hr (by omega)
 rw[←e1]at e;injection e with e
 subst e;refine⟨_,rfl,hb,rfl,fun j u hj=> ?_⟩
 have hj':j<m * sz:=by
  obtain⟨hh,_⟩:=qei.1 hj;rw[flatMap_len hc,hlen]at hh;exact hh
 have h1:(L.flatMap cells)[i * sz+j]? =some u:=by
  have e2:L.flatMap cells=(L.take i).flatMap cells++((L.drop i).take m).flatMap cells++((L.drop i).drop m).flatMap cells:=by
   rw[←List.flatMap_append,←List.flatMap_append,qaa,List.take_append_drop,List.take_append_drop]
  rw[e2,qal (by rw[qla,flatMap_len hc,flatMap_len hc,hlen,qlt];rw[Nat.min_eq_left (by omega)];omega),qar (by rw[flatMap_len hc,qlt,Nat.min_eq_left (by omega)];omega),flatMap_len hc,qlt,Nat.min_eq_left (by omega)]
  rw[←hj];congr 1;omega
 have:=hcell _ u h1;have e3:(⟨b,off,none⟩:Addr).add (i * sz+j)=(⟨b,off+i * sz,none⟩:Addr).add j:=by unfold Addr.add;split<;>split<;>simp_all;omega
 rw[←e3];exact this
theorem Upd.any{F:Nat→Prop}{w w':World}(h:Upd Nowhere w w'):Upd F w w':=h.mono fun _ _ h=>absurd h id
theorem Upd.same{F:Nat→Prop}{a b c:World}(h:Upd F a b)(h':Upd F b c):Upd F a c:=h.trans h' fun _ _ x=>x
theorem Upd.news{F:Nat→Prop}{a b c:World}(h:Upd F a b)(h':Upd (fun k=>a.heap.size≤k) b c):Upd F a c:=h.trans h' fun _ hk x=>absurd x (by omega)
theorem Upd.one(w:World)(R i:Nat)(v:Value):Upd (fun k=>k=R) w (w.setCell ⟨R,i,none⟩ v):=(Upd.refl (fun k=>k=R) w).setCell (p:=⟨R,i,none⟩) (fun _=>rfl) _
theorem byte_lit(w:World)(c:UInt8):BytesE (w.alloc (.cells #[.int .u8 c.toNat] 5)) (.slice (some ⟨w.heap.size,0,none⟩) 1 1) [c]:=
 ⟨_,_,rfl,qlr _,rfl,fun _=>⟨_,rfl,by simp,rfl,fun j u hj=>by
  have hj':j=0:=by
   have:=(qei.1 hj).1;have e:([c].flatMap byteC).length=1:=rfl;omega
  subst hj';have e2:(⟨w.heap.size,0,none⟩:Addr).add 0=⟨w.heap.size,0,none⟩:=by unfold Addr.add;split<;>simp_all
  rw[e2,(Blk.new w 5 _).cell];exact hj⟩⟩
theorem Els.newer{α:Type}{sz:Nat}{cells:α→List Value}{F:Nat→Prop}{w w':World}{v:Value}{L:List α}(h:Els sz cells w v L)(hu:Upd F w w')(hF:∀k,k<w.heap.size→¬F k):Els sz cells w' v L:=by
 obtain⟨A,c,rfl,hc,hl,h⟩:=h;refine⟨A,c,rfl,hc,hl,fun h0=> ?_⟩
 obtain⟨ad,rfl,hb,hs,hcell⟩:=h h0;refine⟨ad,rfl,Nat.lt_of_lt_of_le hb hu.size,hs,fun j u hj=> ?_⟩
 rw[hu.cell (by rw[block_add];exact hb) (by rw[block_add];exact hF _ hb)]
 exact hcell j u hj
abbrev strV(l:Bs):Value:= .string ⟨l.toArray⟩
theorem conv_bytes(w:World)(s:Bs):∃c w',(convert 9 143 (strV s)).run Tryz.prog w= .ok (.slice (some ⟨w.heap.size,0,none⟩) s.length c) w'∧BytesE w' (.slice (some ⟨w.heap.size,0,none⟩) s.length c) s∧Upd Nowhere w w'∧w'.heap.size=w.heap.size+1∧
 ∃cs fz,w'.heap[w.heap.size]? =some (.cells cs 5 fz):=by
 have h:=run_bytes_of_string (P:=Tryz.prog) w 9 143 5 ⟨s.toArray⟩ Tryz.underlying9 Tryz.underlying143 Tryz.underlying5;have hsz:(⟨s.toArray⟩:ByteArray).size=s.length:=by simp[ByteArray.size]
 rw[hsz]at h;generalize hc:grownCap w s.length 0 5=c at h;have hle:s.length≤c:=by rw[←hc];exact grownCap_ge _ _ _ _
 refine⟨c,_,h,⟨_,c,rfl,hle,flatMap_len byteC_len s,fun _=>⟨_,rfl,by simp,rfl,fun j u hj=> ?_⟩⟩,((Upd.refl _ w).drew).alloc _,by simp,⟨_,_,heap_alloc_new w.drew _⟩⟩
 have e2:(⟨w.heap.size,0,none⟩:Addr).add j=⟨w.heap.size,j,none⟩:=by unfold Addr.add;split<;>simp_all
 have hn:=heap_alloc_new w.drew (.cells (bytesRow ⟨s.toArray⟩ c) 5 ((bytesRow ⟨s.toArray⟩ c).size,(bytesRow ⟨s.toArray⟩ c).size+1));have hn':(w.drew.alloc (.cells (bytesRow ⟨s.toArray⟩ c) 5 ((bytesRow ⟨s.toArray⟩ c).size,(bytesRow ⟨s.toArray⟩ c).size+1))).heap[w.heap.size]? =some (.cells (bytesRow ⟨s.toArray⟩ c) 5 ((bytesRow ⟨s.toArray⟩ c).size,(bytesRow ⟨s.toArray⟩ c).size+1)):=hn;rw[e2];unfold World.cell?;simp only[hn'];rw[flat_byteC]at hj
 have hj':j<s.length:=by
  have:=(qei.1 hj).1
  simpa [bytesV] using this
 rw[←hj];unfold bytesRow bytesV;rw[Array.getElem?_append_left (by simpa using hj')]
 simp;rfl
theorem conv_back{w:World}{v:Value}{l:Bs}(h:BytesE w v l):(convert 143 9 v).run Tryz.prog w= .ok (strV l) w:=by
 obtain⟨A,c,rfl,hc,hl,hr⟩:=h
 rcases A with _ | ad
 ·have h0:l.length=0:=by
   rcases Nat.eq_zero_or_pos l.length with h0 | h0
   ·exact h0
   ·obtain⟨ad,h,_⟩:=hr h0
    cases h
  obtain rfl:=List.length_eq_zero_iff.1 h0;exact run_convert_bytes_nil w 143 5 Tryz.underlying143 Tryz.underlying5 _ _ _ Tryz.underlying9
 ·refine run_convert_bytes_back w _ _ 5 ad c l Tryz.underlying143 Tryz.underlying5 Tryz.underlying9 fun j hj=> ?_
  obtain⟨ad',e,_,_,h⟩:=hr (by omega)
  injection e with e
  subst e;refine h j _ ?_;rw[flat_byteC,bytesV_get,qeg hj];rfl
section
variable {P:Program} {ops:Array Oper} {Q:Exit→Act→World→Prop} {a:Act} {w:World} {rest:List Oper} {o:Oper}
theorem wpList_conv_run(hg:o.guard=none)(s d:TypeId)(x:Operand)(ho:o.op= .convert s d x){v v':Value}{w':World}(hx:a.eval x=v)(hrun:(convert s d v).run P w= .ok v' w')(h:wpList P ops Q rest (a.put o.dst v') w'):wpList P ops Q (o::rest) a w:=by
 refine wpList_value hg ?_ h;unfold execOp;simp only[ho,hx,Sem.run_bind,Sem.run_pure,Result.andThen_ok,hrun]
end
theorem and127(n:Nat)(h:n<18446744073709551616):bits .and .u64 (n:Int) 127=((n % 128:Nat):Int):=by
 have:=u64_and_nat n 127 h (by omega)
 rw[nat_mask7]at this;exact this
theorem or128(n:Nat)(h:n<128):bits .or .u8 (n:Int) 128=((128+n:Nat):Int):=by
 have:=u8_or_nat n 128 (by omega) (by omega)
 rw[Nat.or_comm,nat_join 7 128 n (by decide) h]at this
 exact this
theorem byteV_of{n:Nat}(h:n<256):byteV (UInt8.ofNat n)= .int .u8 (n:Int):=by unfold byteV;rw[u8_toNat h]
structure ShortAt(g N:Nat)(w0:World)(n p:Nat)(D:Bs)(w:World):Prop where
 blk:∃cs,Blk w g 304 cs∧cs.size=10∧cs.toList.drop p=bytesV D
 len:p+D.length=10
 pos:0<D.length
 eq:shortB N=shortH (n / 128)++D
 le:n * 128 ^ (D.length - 1)≤N
 upd:Upd Nowhere w0 w
 size:w.heap.size=g+1
 g0:g=w0.heap.size
theorem ShortAt.room{g N:Nat}{w0 w:World}{n p:Nat}{D:Bs}(h:ShortAt g N w0 n p D w)(hN:N<9223372036854775808)(hn:n / 128≠0):1≤p:=by
 have h1:=h.le;have h2:=h.len;have h3:=h.pos
 rcases Nat.lt_or_ge 0 p with hp | hp
 ·exact hp
 ·have:D.length=10:=by omega
  rw[this]at h1;have:128 * 128 ^ 9≤n * 128 ^ 9:=Nat.mul_le_mul_right _ (by omega)
  omega
theorem ShortAt.step{g N:Nat}{w0 w:World}{n p:Nat}{D:Bs}(h:ShortAt g N w0 n p D w)(hN:N<9223372036854775808)(hn:n / 128≠0):
 ShortAt g N w0 (n / 128) (p - 1) (UInt8.ofNat (128+n / 128 % 128)::D) (w.setCell ⟨g,p - 1,none⟩ (.int .u8 ((128+n / 128 % 128:Nat):Int))):=by
 have hp:=h.room hN hn;have hlen:=h.len;have hpos:=h.pos;obtain⟨cs,hb,hs,hd⟩:=h.blk;refine⟨⟨_,hb.set_ (p - 1) _,by simpa using hs,?_⟩,by simp;omega,by simp,?_,?_,h.upd.setCell (fun hlt=>absurd hlt (by rw[h.g0];simp)) _,by simpa [World.setCell] using h.size,h.g0⟩
 ·have e:(cs.setIfInBounds (p - 1) (.int .u8 ((128+n / 128 % 128:Nat):Int))).toList=cs.toList.set (p - 1) (.int .u8 ((128+n / 128 % 128:Nat):Int)):=by simp
  rw[e,List.drop_eq_getElem_cons (by simp;omega),List.getElem_set_self,List.drop_set_of_lt (by omega),show p - 1+1=p by omega,hd]
  simp only[bytesV,List.map_cons];rw[byteV_of (by omega)]
 ·rw[h.eq,shortH_pos hn,qaa];rfl
 ·have h1:=h.le;simp only[List.length_cons,Nat.add_sub_cancel];have e:D.length=(D.length - 1)+1:=by omega
  rw[e,Nat.pow_succ,Nat.mul_comm (128 ^ _) 128,←Nat.mul_assoc];exact Nat.le_trans (Nat.mul_le_mul_right _ (by omega)) h1
theorem short_ok(N:Nat)(hN:N<9223372036854775808)(w:World):Calls Tryz.prog 161 #[.int .u64 (N:Int)] w fun e w'=>
 ∃A c,e= .returned (.slice A (shortB N).length c)∧OwnB w.heap.size w' (.slice A (shortB N).length c) (shortB N)∧Upd Nowhere w w':=by
 have h1:=and127 N (by omega)
 go_enter Tryz.func161,Tryz.ntmps161
 go_wp2
 go_step3
 go_wp2
 go_step3
 go_wp2
 clear h1;go_loopw [0,4] (fun s0 s4 wr=>∃(n p:Nat) (D:Bs),s0= .int .u64 (n:Int)∧s4= .int .i64 (p:Int)∧n<9223372036854775808∧ShortAt w.heap.size N w n p D wr) (fun s0 _ _=>(intOf s0).toNat)
 case atStart=>
  refine⟨N,9,[UInt8.ofNat (N % 128)],rfl,rfl,hN,⟨⟨_,Blk.new w _ _,rfl,?_⟩,rfl,by simp,rfl,by simp,(Upd.refl _ w).alloc _,by simp,rfl⟩⟩
  simp only[bytesV,List.map_cons,List.map_nil];rw[byteV_of (by omega)]
  simp
 case round=>
  obtain⟨n,p,D,rfl,rfl,hn,HS⟩:=hrel;have h2:=and127 (n / 128) (by omega)
  have e2:((n / 128:Nat):Int)=(n:Int) / 128:=by omega
  rw[e2]at h2;by_cases hz:n / 128=0
  ·have hz':((n:Int) / 128 == 0)=true:=by have:(n:Int) / 128=0:=by omega
                                          simp[this]
   have hD:shortB N=D:=by rw[HS.eq,hz,shortH_zero];rfl
   have hp:p≤10:=by have:=HS.len;omega
   have hpi:(p:Int)≤10:=by omega
   have hne:¬10=p:=by have:=HS.len;have:=HS.pos;omega
   have hsz:=HS.size;have hlen:=HS.len;obtain⟨cs,hb,hs,hd⟩:=HS.blk
   have hE:BytesE (wr.alloc (.cells #[] 5)) (.slice (some ⟨w.heap.size,p,none⟩) (10 - p) (10 - p)) D:=by
    have e1:10 - p=D.length:=by omega
    rw[e1];refine⟨_,_,rfl,qlr _,flatMap_len byteC_len D,fun _=>⟨_,rfl,by simp[hsz];omega,rfl,fun j u hj=> ?_⟩⟩
    have e2:(⟨w.heap.size,p,none⟩:Addr).add j=⟨w.heap.size,p+j,none⟩:=by unfold Addr.add;split<;>simp_all
    rw[e2,(hb.alloc _).cell,←Array.getElem?_toList,←hj,flat_byteC,←hd,List.getElem?_drop]
   obtain⟨A,c,w3,hrun,hown,hup⟩:=byte_row.appU (OwnR.lit 5 byteC 1 w.heap.size wr (by omega)) (by simp;omega) 143 hE (by simp;omega)
   rw[show([]:Bs).length+D.length=D.length by simp]at hrun hown
   rw[List.nil_append]at hown;have HRUN:=qh hrun;have HOWN:=qh hown;have HUP:=qh hup;have HD:=qh hD;have HU:=qh HS.upd;have HG:=qh HS.size;clear hz h2 HS hrun hown hup hD hE hb hd hs hN hn e2 hsz hlen;go_wp2_with (at_builtin;refine wpList_append_run rfl _ _ _ rfl rfl rfl HRUN.out ?_)
   rw[Exit.noGoto_ret];go_ret;refine⟨A,c,?_,?_,?_⟩
   ·rw[HD.out];rfl
   ·rw[HD.out];exact HOWN.out
   ·exact(HU.out.alloc _).trans HUP.out fun k hk e=>absurd e (by have:=HG.out;simp[Value.ownBlock];omega)
  ·have hz':((n:Int) / 128 == 0)=false:=by
    have:(n:Int) / 128≠0:=by omega
    simpa using this
   have hp:=HS.room hN hz;have h3:=or128 (n / 128 % 128) (by omega)
   have e3:((n / 128 % 128:Nat):Int)=(n:Int) / 128 % 128:=by omega
   have e4:((128+n / 128 % 128:Nat):Int)=128+(n:Int) / 128 % 128:=by omega
   rw[e3]at h2 h3;rw[e4]at h3;have HX:=qh (HS.step hN hz);have hpi:1≤(p:Int):=by omega
   have hp9:p≤9:=by have:=HS.len;have:=HS.pos;omega
   have hpi9:(p:Int)≤9:=by omega
   have ep:((p:Int) - 1).toNat=p - 1:=by omega
   obtain⟨cs,hb,hs,hd⟩:=HS.blk;have hcell:∃v0,wr.cell? ⟨w.heap.size,p - 1,none⟩=some v0:=⟨cs[p - 1]'(by omega),by rw[hb.cell,Array.getElem?_eq_getElem]⟩
   obtain⟨v0,hcell⟩:=hcell;have hfz:=hb.frozen (p - 1);have Hn:=qh hn;have HZ:=qh hz;clear hz HS hN hn e2 e3 e4 hb hs hd;go_wp2_with fail
   refine⟨⟨n / 128,p - 1,UInt8.ofNat (128+n / 128 % 128)::D,by go_num,by go_num,by have:=Hn.out;omega,?_⟩,by simp[intOf];have:=HZ.out;omega⟩
   have:=HX.out;rw[show((128+n / 128 % 128:Nat):Int)=128+(n:Int) / 128 % 128 by omega]at this
   exact this
theorem and127b(n:Nat)(h:n<256):bits .and .u8 (n:Int) 127=((n % 128:Nat):Int):=by
 have:=u8_and_nat n 127 h (by omega)
 rw[nat_mask7]at this;exact this
theorem or64(n c:Nat)(h:n<144115188075855872)(hc:c<128):bits .or .u64 ((n:Int) * 128) (c:Int)=((n * 128+c:Nat):Int):=by
 have:=u64_or_nat (n * 128) c (by omega) (by omega)
 rw[nat_join 7 (n * 128) c (by omega) hc]at this
 rw[←this];push_cast;rfl
theorem byte_at{w:World}{v:Value}{L:Bs}(h:BytesE w v L){i:Nat}{c:UInt8}(hz:L[i]? =some c):∃b off cp,v= .slice (some ⟨b,off,none⟩) L.length cp∧b<w.heap.size∧w.cell? ⟨b,off+i,none⟩=some (.int .u8 c.toNat):=by
 obtain⟨b,off,cp,rfl,hb,hc⟩:=h.get byteC_len hz;have:=hc 0 (by omega)
 rw[Nat.mul_one]at this;exact⟨b,off,cp,rfl,hb,this⟩
theorem takeShort_ok{b:Bs}{v:Value}{w:World}(h:BytesE w v b)(hl:b.length≤1000000):Calls Tryz.prog 239 #[v] w fun e w'=>
 e= .returned (.tuple #[.int .u64 ((takeShort b).1:Nat),.int .i64 ((takeShort b).2.1:Nat),.int .i64 (takeShort b).2.2])∧w'=w:=by
 obtain⟨A,c,rfl,hc⟩:=h.val;have H:=qh h;clear h;go_enter Tryz.func239,Tryz.ntmps239
 go_wp2_with fail
 go_loopw [5,10] (fun s5 s10 wr=>∃(n k:Nat),s5= .int .u64 (n:Int)∧s10= .int .i64 (k:Int)∧k≤b.length∧takeShort b=takeGo n k (b.drop k)∧wr=w) (fun _ s10 _=>b.length - (intOf s10).toNat)
 case atStart=>exact⟨0,0,rfl,rfl,by omega,rfl,rfl⟩
 case round=>
  obtain⟨n,k,rfl,rfl,hk,hE,rfl⟩:=hrel;by_cases hlt:k<b.length
  ·obtain⟨x,hx⟩:∃x,b[k]? =some x:=⟨_,qeg hlt⟩;obtain⟨bb,off,c',he,hb,h0⟩:=byte_at H.out hx
   cases he;have hx256:=UInt8.toNat_lt x;have hi:(k:Int)<(b.length:Nat):=by omega
   have hdr:b.drop k=x::b.drop (k+1):=by
    rw[List.drop_eq_getElem_cons hlt];rw[qeg hlt]at hx;rw[Option.some.inj hx]
   rw[hdr,takeGo]at hE
   have hX:x<128↔(x.toNat:Int)<128:=by
    rw[UInt8.lt_iff_toNat_lt];have:(128:UInt8).toNat=128:=rfl;omega
   have HX:=qh hX
   have hkk:(((k:Int) == 0)=true∧k=0)∨(((k:Int) == 0)=false∧k≠0):=by
    by_cases h2:k=0
    ·exact .inl ⟨by simpa using h2,h2⟩
    ·exact .inr ⟨by simpa using h2,h2⟩
   clear hX hdr hx;by_cases h1:k=0∧x=128
   ·rw[if_pos h1]at hE;have HE:=qh hE;have hx8:((x.toNat:Int) == 128)=true:=by rw[h1.2];rfl
    have hk0:((k:Int) == 0)=true:=by rw[h1.1];rfl
    clear hE h1 HX hkk;go_wp2_with fail
    go_ret3
    exact⟨by rw[HE.out];rfl,rfl⟩
   ·rw[if_neg h1]at hE;have Hk:=qh hk
    have hg:k=0→((x.toNat:Int) == 128)=false:=fun h2=>by
     have h3:x.toNat≠128:=fun e=>h1 ⟨h2,UInt8.toNat_inj.1 e⟩
     simpa using(by omega:(x.toNat:Int)≠128)
    clear h1 hk;by_cases hn:2 ^ 57≤n
    ·rw[if_pos hn]at hE;have HE:=qh hE;have hn':(144115188075855872:Int)≤(n:Int):=by omega
     clear hE hn HX
     rcases hkk with⟨hk0,hk⟩ | ⟨hk0,hk⟩
     ·have hgg:=hg hk;clear hg hk;go_wp2_with fail
      go_ret3
      exact⟨by rw[HE.out];rfl,rfl⟩
     ·clear hg hk;go_wp2_with fail
      go_ret3
      exact⟨by rw[HE.out];rfl,rfl⟩
    ·rw[if_neg hn]at hE;have hn':¬(144115188075855872:Int)≤(n:Int):=by omega
     have hn0:(n:Int)<144115188075855872:=by omega
     have ha:=and127b x.toNat hx256;have e1:((x.toNat % 128:Nat):Int)=(x.toNat:Int) % 128:=by omega
     have ho:=or64 n (x.toNat % 128) (by omega) (by omega)
     have e2:((n * 128+x.toNat % 128:Nat):Int)=(n:Int) * 128+(x.toNat:Int) % 128:=by omega
     rw[e1]at ha ho;rw[e2]at ho;have E2:=qh e2;have hlt':=qh hlt;clear hn e1 e2 hlt;by_cases hc:x<128
     ·rw[if_pos hc]at hE;have HE:=qh hE;have hc':(x.toNat:Int)<128:=HX.out.1 hc;clear hE hc
      rcases hkk with⟨hk0,hk⟩ | ⟨hk0,hk⟩
      ·have hgg:=hg hk;clear hg hk;go_wp2_with fail
       go_ret3
       exact⟨by rw[HE.out];simp only[E2.out];rfl,rfl⟩
      ·clear hg hk;go_wp2_with fail
       go_ret3
       exact⟨by rw[HE.out];simp only[E2.out];rfl,rfl⟩
     ·rw[if_neg hc]at hE;have HE:=qh hE;have hc':¬(x.toNat:Int)<128:=fun h=>hc (HX.out.2 h)
      clear hE hc
      rcases hkk with⟨hk0,hk⟩ | ⟨hk0,hk⟩
      ·have hgg:=hg hk;clear hg hk;go_wp2_with fail
       go_roundw
       case rel=>exact⟨n * 128+x.toNat % 128,k+1,by rw[E2.out],by go_num,hlt'.out,HE.out,by trivial⟩
       case measure=>have:=hlt'.out;simp[intOf];omega
      ·clear hg hk;go_wp2_with fail
       go_roundw
       case rel=>exact⟨n * 128+x.toNat % 128,k+1,by rw[E2.out],by go_num,hlt'.out,HE.out,by trivial⟩
       case measure=>have:=hlt'.out;simp[intOf];omega
  ·have e:k=b.length:=by omega
   have hi:¬(k:Int)<(b.length:Nat):=by omega
   rw[e,List.drop_length]at hE;have HE:=qh hE;clear hE e hlt;go_wp2_with fail
   go_ret3
   exact⟨by rw[HE.out];rfl,rfl⟩
def wideB(wide n:Nat):Bs:=(List.range wide).map fun i=>UInt8.ofNat (n / 2 ^ (8 * (wide - 1 - i)))
theorem wideB_len(wide n:Nat):(wideB wide n).length=wide:=by simp[wideB]
theorem byteV_mod(n:Nat):byteV (UInt8.ofNat n)= .int .u8 ((n % 256:Nat):Int):=by
 unfold byteV;rw[UInt8.toNat_ofNat']
theorem mk4(w:World):(Instr.makeSlice 143 (.int .i64 4) (.int .i64 4)).run Tryz.prog w= .ok (.slice (some ⟨w.heap.size,0,none⟩) 4 4) (w.alloc (.cells #[.int .u8 0,.int .u8 0,.int .u8 0,.int .u8 0] 5)):=by kernel_rfl
structure Wide4(g n:Nat)(w0:World)(k:Nat)(w:World):Prop where
 blk:∃cs,Blk w g 5 cs∧cs.size=4∧cs.toList.take k=bytesV ((wideB 4 n).take k)
 upd:Upd Nowhere w0 w
 g0:g=w0.heap.size
theorem Wide4.step{g n k:Nat}{w0 w:World}(h:Wide4 g n w0 k w)(hk:k<4){v:Value}(hv:v=byteV (UInt8.ofNat (n / 2 ^ (8 * (4 - 1 - k))))):Wide4 g n w0 (k+1) (w.setCell ⟨g,k,none⟩ v):=by
 obtain⟨cs,hb,hs,hd⟩:=h.blk;refine⟨⟨_,hb.set_ k v,by simpa using hs,?_⟩,h.upd.setCell (fun hlt=>absurd hlt (by rw[h.g0];simp)) _,h.g0⟩
 have e:(cs.setIfInBounds k v).toList=cs.toList.set k v:=by simp
 have e2:(wideB 4 n)[k]? =some (UInt8.ofNat (n / 2 ^ (8 * (4 - 1 - k)))):=by simp[wideB,hk]
 rw[e,List.take_add_one,List.take_add_one,e2,List.take_set_of_le (by omega),hd,List.getElem?_set_self (by simpa [hs] using hk),hv]
 simp[bytesV]
theorem Wide4.cell{g n k:Nat}{w0 w:World}(h:Wide4 g n w0 k w)(i:Nat)(hi:i<4):(∃v,w.cell? ⟨g,i,none⟩=some v)∧w.frozen? ⟨g,i,none⟩=false:=by
 obtain⟨cs,hb,hs,_⟩:=h.blk;exact⟨⟨cs[i]'(by omega),by rw[hb.cell,Array.getElem?_eq_getElem]⟩,hb.frozen i⟩
theorem wide4_ok(n:Nat)(hn:n<4294967296)(w:World):Calls Tryz.prog 150 #[.int .u64 (n:Int),.int .i64 4] w fun e w'=>
 ∃A c,e= .returned (.tuple #[.slice A 4 c,.int .i64 0])∧OwnB w.heap.size w' (.slice A 4 c) (wideB 4 n)∧Upd Nowhere w w':=by
 have h0:((n:Int) / 4294967296 != 0)=false:=by
  have:(n:Int) / 4294967296=0:=by omega
  simp[this]
 have hmk:=mk4;go_enter Tryz.func150,Tryz.ntmps150
 go_wp2_with fail
 clear hmk;go_loopw [29] (fun s29 wr=>∃k:Nat,s29= .int .i64 (k:Int)∧k≤4∧Wide4 w.heap.size n w k wr) (fun s29 _=>4 - (intOf s29).toNat)
 case atStart=>exact⟨0,rfl,by omega,⟨⟨_,Blk.new w _ _,rfl,rfl⟩,(Upd.refl _ w).alloc _,rfl⟩⟩
 case round=>
  obtain⟨k,rfl,hk,HS⟩:=hrel;have H:=qh HS
  rcases(by omega:k=4∨k=0∨k=1∨k=2∨k=3) with rfl | rfl | rfl | rfl | rfl
  ·clear HS;go_wp2_with fail
   go_ret2;obtain⟨cs,hb,hs,hd⟩:=H.out.blk;have e1:cs.toList.take 4=cs.toList:=List.take_of_length_le (by simp[hs])
   have e2:(wideB 4 n).take 4=wideB 4 n:=List.take_of_length_le (by simp[wideB])
   rw[e1,e2]at hd;refine⟨_,_,rfl,⟨⟨by rw[flat_byteC,bytesV_length,wideB_len],.inr ⟨w.heap.size,4,cs,by rw[wideB_len],by omega,hb,by rw[wideB_len];omega,by simp[maxLen],by rw[hs],?_⟩⟩,fun k hk=> ?_⟩,H.out.upd⟩
   ·rw[flat_byteC,←hd];exact List.take_of_length_le (by simp[hs,wideB_len])
   ·have:w.heap.size=k:=by simpa [Value.ownBlock] using hk
    omega
  ·obtain⟨⟨v0,hc⟩,hf⟩:=HS.cell 0 (by omega)
   clear HS;go_wp2_with fail
   go_roundw
   case rel=>exact⟨1,by go_num,by omega,H.out.step (by omega) (by rw[byteV_mod];simp<;>omega)⟩
   case measure=>simp[intOf]
  ·obtain⟨⟨v0,hc⟩,hf⟩:=HS.cell 1 (by omega)
   clear HS;go_wp2_with fail
   go_roundw
   case rel=>exact⟨2,by go_num,by omega,H.out.step (by omega) (by rw[byteV_mod];simp<;>omega)⟩
   case measure=>simp[intOf]
  ·obtain⟨⟨v0,hc⟩,hf⟩:=HS.cell 2 (by omega)
   clear HS;go_wp2_with fail
   go_roundw
   case rel=>exact⟨3,by go_num,by omega,H.out.step (by omega) (by rw[byteV_mod];simp<;>omega)⟩
   case measure=>simp[intOf]
  ·obtain⟨⟨v0,hc⟩,hf⟩:=HS.cell 3 (by omega)
   clear HS;go_wp2_with fail
   go_roundw
   case rel=>exact⟨4,by go_num,by omega,H.out.step (by omega) (by rw[byteV_mod];simp<;>omega)⟩
   case measure=>simp[intOf]
theorem mk5(w:World):(Instr.makeSlice 143 (.int .i64 5) (.int .i64 5)).run Tryz.prog w= .ok (.slice (some ⟨w.heap.size,0,none⟩) 5 5) (w.alloc (.cells #[.int .u8 0,.int .u8 0,.int .u8 0,.int .u8 0,.int .u8 0] 5)):=by kernel_rfl
structure Wide5(g n:Nat)(w0:World)(k:Nat)(w:World):Prop where
 blk:∃cs,Blk w g 5 cs∧cs.size=5∧cs.toList.take k=bytesV ((wideB 5 n).take k)
 upd:Upd Nowhere w0 w
 g0:g=w0.heap.size
theorem Wide5.step{g n k:Nat}{w0 w:World}(h:Wide5 g n w0 k w)(hk:k<5){v:Value}(hv:v=byteV (UInt8.ofNat (n / 2 ^ (8 * (5 - 1 - k))))):Wide5 g n w0 (k+1) (w.setCell ⟨g,k,none⟩ v):=by
 obtain⟨cs,hb,hs,hd⟩:=h.blk;refine⟨⟨_,hb.set_ k v,by simpa using hs,?_⟩,h.upd.setCell (fun hlt=>absurd hlt (by rw[h.g0];simp)) _,h.g0⟩
 have e:(cs.setIfInBounds k v).toList=cs.toList.set k v:=by simp
 have e2:(wideB 5 n)[k]? =some (UInt8.ofNat (n / 2 ^ (8 * (5 - 1 - k)))):=by simp[wideB,hk]
 rw[e,List.take_add_one,List.take_add_one,e2,List.take_set_of_le (by omega),hd,List.getElem?_set_self (by simpa [hs] using hk),hv]
 simp[bytesV]
theorem Wide5.cell{g n k:Nat}{w0 w:World}(h:Wide5 g n w0 k w)(i:Nat)(hi:i<5):(∃v,w.cell? ⟨g,i,none⟩=some v)∧w.frozen? ⟨g,i,none⟩=false:=by
 obtain⟨cs,hb,hs,_⟩:=h.blk;exact⟨⟨cs[i]'(by omega),by rw[hb.cell,Array.getElem?_eq_getElem]⟩,hb.frozen i⟩
theorem wide5_ok(n:Nat)(hn:n<1099511627776)(w:World):Calls Tryz.prog 150 #[.int .u64 (n:Int),.int .i64 5] w fun e w'=>
 ∃A c,e= .returned (.tuple #[.slice A 5 c,.int .i64 0])∧OwnB w.heap.size w' (.slice A 5 c) (wideB 5 n)∧Upd Nowhere w w':=by
 have h0:((n:Int) / 1099511627776 != 0)=false:=by
  have:(n:Int) / 1099511627776=0:=by omega
  simp[this]
 have hmk:=mk5;go_enter Tryz.func150,Tryz.ntmps150
 go_wp2_with fail
 clear hmk;go_loopw [29] (fun s29 wr=>∃k:Nat,s29= .int .i64 (k:Int)∧k≤5∧Wide5 w.heap.size n w k wr) (fun s29 _=>5 - (intOf s29).toNat)
 case atStart=>exact⟨0,rfl,by omega,⟨⟨_,Blk.new w _ _,rfl,rfl⟩,(Upd.refl _ w).alloc _,rfl⟩⟩
 case round=>
  obtain⟨k,rfl,hk,HS⟩:=hrel;have H:=qh HS
  rcases(by omega:k=5∨k=0∨k=1∨k=2∨k=3∨k=4) with rfl | rfl | rfl | rfl | rfl | rfl
  ·clear HS;go_wp2_with fail
   go_ret2;obtain⟨cs,hb,hs,hd⟩:=H.out.blk;have e1:cs.toList.take 5=cs.toList:=List.take_of_length_le (by simp[hs])
   have e2:(wideB 5 n).take 5=wideB 5 n:=List.take_of_length_le (by simp[wideB])
   rw[e1,e2]at hd;refine⟨_,_,rfl,⟨⟨by rw[flat_byteC,bytesV_length,wideB_len],.inr ⟨w.heap.size,5,cs,by rw[wideB_len],by omega,hb,by rw[wideB_len];omega,by simp[maxLen],by rw[hs],?_⟩⟩,fun k hk=> ?_⟩,H.out.upd⟩
   ·rw[flat_byteC,←hd];exact List.take_of_length_le (by simp[hs,wideB_len])
   ·have:w.heap.size=k:=by simpa [Value.ownBlock] using hk
    omega
  ·obtain⟨⟨v0,hc⟩,hf⟩:=HS.cell 0 (by omega)
   clear HS;go_wp2_with fail
   go_roundw
   case rel=>exact⟨1,by go_num,by omega,H.out.step (by omega) (by rw[byteV_mod];simp<;>omega)⟩
   case measure=>simp[intOf]
  ·obtain⟨⟨v0,hc⟩,hf⟩:=HS.cell 1 (by omega)
   clear HS;go_wp2_with fail
   go_roundw
   case rel=>exact⟨2,by go_num,by omega,H.out.step (by omega) (by rw[byteV_mod];simp<;>omega)⟩
   case measure=>simp[intOf]
  ·obtain⟨⟨v0,hc⟩,hf⟩:=HS.cell 2 (by omega)
   clear HS;go_wp2_with fail
   go_roundw
   case rel=>exact⟨3,by go_num,by omega,H.out.step (by omega) (by rw[byteV_mod];simp<;>omega)⟩
   case measure=>simp[intOf]
  ·obtain⟨⟨v0,hc⟩,hf⟩:=HS.cell 3 (by omega)
   clear HS;go_wp2_with fail
   go_roundw
   case rel=>exact⟨4,by go_num,by omega,H.out.step (by omega) (by rw[byteV_mod];simp<;>omega)⟩
   case measure=>simp[intOf]
  ·obtain⟨⟨v0,hc⟩,hf⟩:=HS.cell 4 (by omega)
   clear HS;go_wp2_with fail
   go_roundw
   case rel=>exact⟨5,by go_num,by omega,H.out.step (by omega) (by rw[byteV_mod];simp<;>omega)⟩
   case measure=>simp[intOf]
def takeN(n:Nat)(b:Bs):Nat:=b.foldl (fun n c=>n * 256+c.toNat) n
theorem takeN_lt{k:Nat}:∀{b:Bs} {n:Nat},n<256 ^ k→takeN n b<256 ^ (k+b.length):=by
 intro b
 induction b generalizing k with
 | nil=>intro n h;exact h
 | cons c b ih=>
   intro n h;have hc:=UInt8.toNat_lt c;have h2:n * 256+c.toNat<256 ^ (k+1):=by rw[Nat.pow_succ];omega
   have:=ih h2;rw[List.length_cons,show k+(b.length+1)=k+1+b.length by omega]
   exact this
theorem takeN_snoc(b:Bs)(c:UInt8):takeN 0 (b++[c])=takeN 0 b * 256+c.toNat:=by simp[takeN]
theorem or256(n c:Nat)(h:n<72057594037927936)(hc:c<256):bits .or .u64 ((n:Int) * 256) (c:Int)=((n * 256+c:Nat):Int):=by
 have:=u64_or_nat (n * 256) c (by omega) (by omega)
 rw[nat_join 8 (n * 256) c (by omega) hc]at this
 rw[←this,Int.natCast_mul];rfl
theorem takeWide5_ok{b:Bs}{v:Value}{w:World}(h:BytesE w v b)(hl:b.length≤1000000)(h5:5≤b.length):Calls Tryz.prog 159 #[v,.int .i64 5] w fun e w'=>
 e= .returned (.tuple #[.int .u64 (takeN 0 (b.take 5):Nat),.int .i64 0])∧w'=w:=by
 obtain⟨A,c,rfl,hc⟩:=h.val;have H:=qh h;clear h;have h5':(5:Int)≤(b.length:Nat):=by omega
 have hc5:5≤c:=by omega
 go_enter Tryz.func159,Tryz.ntmps159
 go_wp2_with fail
 go_loopw [6,25] (fun s6 s25 wr=>∃k:Nat,s6= .int .u64 (takeN 0 (b.take k):Nat)∧s25= .int .i64 (k:Int)∧k≤5∧wr=w) (fun _ s25 _=>5 - (intOf s25).toNat)
 case atStart=>exact⟨0,rfl,rfl,by omega,rfl⟩
 case round=>
  obtain⟨k,rfl,rfl,hk,rfl⟩:=hrel;by_cases hlt:k<5
  ·obtain⟨x,hx⟩:∃x,b[k]? =some x:=⟨_,qeg (by omega)⟩
   obtain⟨bb,off,c',he,hb,h0⟩:=byte_at H.out hx
   cases he;have hx256:=UInt8.toNat_lt x;have hi:(k:Int)<5:=by omega
   have hlim:=takeN_lt (k:=0) (b:=b.take k) (n:=0) (by decide)
   have hlk:(b.take k).length=k:=by simp;omega
   rw[hlk]at hlim;have hlim2:takeN 0 (b.take k)<4294967296:=Nat.lt_of_lt_of_le hlim (by rw[Nat.zero_add,show 4294967296=256 ^ 4 by decide];exact Nat.pow_le_pow_right (by omega) (by omega))
   have hsn:takeN 0 (b.take (k+1))=takeN 0 (b.take k) * 256+x.toNat:=by rw[List.take_add_one,hx];exact takeN_snoc _ _
   have HSN:=qh hsn;generalize hN:takeN 0 (b.take k)=n at*;have ho:=or256 n x.toNat (by omega) hx256
   have e2:((n * 256+x.toNat:Nat):Int)=(n:Int) * 256+(x.toNat:Int):=by omega
   rw[e2]at ho;have hn0:(n:Int)<4294967296:=by omega
   have E2:=qh e2;clear hlim hlim2 hsn hN e2 hx hlk hlt hk;go_wp2_with fail
   go_roundw
   case rel=>exact⟨k+1,by rw[HSN.out,E2.out],by go_num,by omega,by trivial⟩
   case measure=>simp[intOf];omega
  ·obtain rfl:k=5:=by omega
   go_wp2_with fail
   go_ret2;exact⟨rfl,rfl⟩
structure Four(w:World)(g n:Nat)(a b c d:Value):Prop where
 blk:∃cs:Array Value,(Blk w g 5 cs∧cs.size=n)∧cs[0]? =some a∧cs[1]? =some b∧cs[2]? =some c∧cs[3]? =some d
theorem Four.cells{w:World}{g n:Nat}{a b c d:Value}(h:Four w g n a b c d):w.cell? ⟨g,0,none⟩=some a∧w.cell? ⟨g,1,none⟩=some b∧w.cell? ⟨g,2,none⟩=some c∧w.cell? ⟨g,3,none⟩=some d∧
 w.frozen? ⟨g,0,none⟩=false∧w.frozen? ⟨g,1,none⟩=false∧w.frozen? ⟨g,2,none⟩=false∧w.frozen? ⟨g,3,none⟩=false:=by
 obtain⟨cs,⟨hb,hn⟩,h0,h1,h2,h3⟩:=h.blk;exact⟨by rw[hb.cell,h0],by rw[hb.cell,h1],by rw[hb.cell,h2],by rw[hb.cell,h3],hb.frozen _,hb.frozen _,hb.frozen _,hb.frozen _⟩
def halfN:List Nat:=[0,498536548,997073096,651767980,1994146192,1802195444,1303535960,1342533948,3988292384,4027552580,3604390888,3412177804,2607071920,2262029012,2685067896,3183342108]
def halfV:List Value:=halfN.map fun n:Nat=> .int .u32 (n:Int)
def HalfW(w:World):Prop:=∃ty fz,w.heap[0]? =some (.cells ⟨halfV⟩ ty fz)
theorem HalfW.upd{F:Nat→Prop}{w w':World}(h:HalfW w)(hu:Upd F w w')(hF:¬F 0):HalfW w':=by
 obtain⟨ty,fz,h⟩:=h;exact⟨ty,fz,(hu.block _ (lt_of_heap h) hF).trans h⟩
theorem HalfW.lt{w:World}(h:HalfW w):0<w.heap.size:=by obtain⟨_,_,h⟩:=h;exact lt_of_heap h
def halfAt(i:Nat):Nat:=halfN.getD i 0
theorem halfAt_lt(i:Nat):halfAt i<4294967296:=by
 unfold halfAt;by_cases h:i<16
 ·rcases(by omega:i=0∨i=1∨i=2∨i=3∨i=4∨i=5∨i=6∨i=7∨i=8∨i=9∨i=10∨i=11∨i=12∨i=13∨i=14∨i=15) with rfl | rfl | rfl | rfl | rfl | rfl | rfl | rfl | rfl | rfl | rfl | rfl | rfl | rfl | rfl | rfl<;>decide
 ·rw[List.getD_eq_getElem?_getD,List.getElem?_eq_none (by simp[halfN];omega)];decide
theorem HalfW.cell{w:World}(h:HalfW w){i:Nat}(hi:i<16):w.cell? ⟨0,i,none⟩=some (.int .u32 (halfAt i:Int)):=by
 obtain⟨ty,fz,h⟩:=h
 have e:halfN[i]? =some (halfAt i):=by
  unfold halfAt;rw[List.getD_eq_getElem?_getD,qeg (by simpa [halfN] using hi)];rfl
 simp[World.cell?,h,halfV,e]
def crcHalf(c:Nat):Nat:=c / 16 ^^^ halfAt (c % 16)
def crcStep(c:Nat)(x:UInt8):Nat:=crcHalf (crcHalf (c ^^^ x.toNat))
def crcN(l:Bs):Nat:=l.foldl crcStep 4294967295
def crcF(l:Bs):Nat:=4294967295 ^^^ crcN l
def sumB(l:Bs):Bs:=(wideB 4 (crcF l)).reverse
theorem sumB_len(l:Bs):(sumB l).length=4:=by simp[sumB,wideB_len]
theorem xor_lt32{a b:Nat}(ha:a<4294967296)(hb:b<4294967296):a ^^^ b<4294967296:=Nat.xor_lt_two_pow (n:=32) ha hb
theorem crcHalf_lt{c:Nat}(h:c<4294967296):crcHalf c<4294967296:=xor_lt32 (by omega) (halfAt_lt _)
theorem crcN_lt(l:Bs):crcN l<4294967296:=by
 unfold crcN
 have:∀(l:Bs) (c:Nat),c<4294967296→l.foldl crcStep c<4294967296:=by
  intro l
  induction l with
  | nil=>intro c h;exact h
  | cons x l ih=>
    intro c h;have:=UInt8.toNat_lt x;exact ih _ (crcHalf_lt (crcHalf_lt (xor_lt32 h (by omega))))
 exact this l _ (by omega)
theorem crcF_lt(l:Bs):crcF l<4294967296:=xor_lt32 (by omega) (crcN_lt l)
theorem and15(n:Nat)(h:n<4294967296):bits .and .u32 (n:Int) 15=((n % 16:Nat):Int):=by
 have:=u32_and_nat n 15 h (by omega)
 rw[nat_mask4]at this;exact this
theorem sum_ok{b:Bs}{v:Value}{w:World}(h:BytesE w v b)(hl:b.length≤1000000)(hW:HalfW w):Calls Tryz.prog 257 #[v] w fun e w'=>
 e= .returned (.int .u32 (crcF b:Nat))∧w'=w:=by
 obtain⟨A,c,rfl,hc⟩:=h.val;have H:=qh h;have HW:=qh hW;clear h hW;go_enter Tryz.func257,Tryz.ntmps257
 go_wp2_with fail
 go_loopw [3,8] (fun s3 s8 wr=>∃k:Nat,s3= .int .u32 (crcN (b.take k):Nat)∧s8= .int .i64 (k:Int)∧k≤b.length∧wr=w) (fun _ s8 _=>b.length - (intOf s8).toNat)
 case atStart=>exact⟨0,rfl,rfl,by omega,rfl⟩
 case round=>
  obtain⟨k,rfl,rfl,hk,rfl⟩:=hrel;by_cases hlt:k<b.length
  ·obtain⟨x,hx⟩:∃x,b[k]? =some x:=⟨_,qeg hlt⟩;obtain⟨bb,off,c',he,hb,h0⟩:=byte_at H.out hx
   cases he;have hx256:=UInt8.toNat_lt x;have hi:(k:Int)<(b.length:Nat):=by omega
   have hsn:crcN (b.take (k+1))=crcStep (crcN (b.take k)) x:=by rw[List.take_add_one,hx];simp[crcN]
   have hlim:=crcN_lt (b.take k);have HSN:=qh hsn;generalize hN:crcN (b.take k)=n at*;have hx1:=u32_xor_nat n x.toNat hlim (by omega)
   have hl1:n ^^^ x.toNat<4294967296:=xor_lt32 hlim (by omega)
   generalize e1:n ^^^ x.toNat=c1 at*;have ha1:=and15 c1 hl1;have hm1:c1 % 16<16:=by omega
   have hc1:=HW.out.cell hm1;have hx2:=u32_xor_nat (c1 / 16) (halfAt (c1 % 16)) (by omega) (halfAt_lt _)
   have hl2:=crcHalf_lt hl1;have eh1:c1 / 16 ^^^ halfAt (c1 % 16)=crcHalf c1:=rfl;rw[eh1]at hx2;have HN1:Hid (crcStep n x=crcHalf (crcHalf c1)):=qh (by unfold crcStep;rw[e1])
   generalize e2:crcHalf c1=c2 at*;have ha2:=and15 c2 hl2;have hm2:c2 % 16<16:=by omega
   have hc2:=HW.out.cell hm2;have hx3:=u32_xor_nat (c2 / 16) (halfAt (c2 % 16)) (by omega) (halfAt_lt _)
   have eh2:c2 / 16 ^^^ halfAt (c2 % 16)=crcHalf c2:=rfl;rw[eh2]at hx3;have d1:((c1 / 16:Nat):Int)=(c1:Int) / 16:=by omega
   have d2:((c2 / 16:Nat):Int)=(c2:Int) / 16:=by omega
   rw[d1]at hx2;rw[d2]at hx3;generalize halfAt (c1 % 16)=v1 at*;generalize halfAt (c2 % 16)=v2 at*;generalize hg1:c1 % 16=m1 at*;generalize hg2:c2 % 16=m2 at*;have hm1':(m1:Int)<16:=by omega
   have hm2':(m2:Int)<16:=by omega
   clear hsn hN hx hlt hk hlim hl1 hl2 eh1 eh2 d1 d2 e1 e2 hg1 hg2 hm1 hm2;go_wp2_with fail
   go_roundw
   case rel=>exact⟨k+1,by rw[HSN.out,HN1.out],by go_num,by omega,by trivial⟩
   case measure=>simp[intOf];omega
  ·obtain rfl:k=b.length:=by omega
   have hlim:=crcN_lt b;rw[List.take_length];have hnot:bits .xor .u32 IntKind.u32.max (crcN b:Int)=((crcF b:Nat):Int):=u32_xor_nat 4294967295 (crcN b) (by omega) hlim
   have hsg:IntKind.u32.signed=false:=rfl;clear hlim hlt hk;go_wp2_with fail
   go_ret;exact⟨rfl,rfl⟩
theorem Four.drew{w:World}{g n:Nat}{a b c d:Value}(h:Four w g n a b c d):Four w.drew g n a b c d:=by
 obtain⟨cs,⟨hb,hn⟩,h⟩:=h.blk;exact⟨cs,⟨hb.drew,hn⟩,h⟩
theorem Four.swap{w:World}{g n:Nat}{a b c d:Value}(h:Four w g n a b c d):Four ((w.setCell ⟨g,0,none⟩ d).setCell ⟨g,3,none⟩ a) g n d b c a:=by
 obtain⟨cs,⟨hb,hn⟩,h0,h1,h2,h3⟩:=h.blk;have hs:3<cs.size:=(Array.getElem?_eq_some_iff.1 h3).1;have hs0:0<cs.size:=by omega
 exact⟨_,⟨(hb.set_ 0 d).set_ 3 a,by simpa using hn⟩,by simp[hs0],by simp[h1],by simp[h2],by simp[hs]⟩
theorem Four.swap2{w:World}{g n:Nat}{a b c d:Value}(h:Four w g n a b c d):Four ((w.setCell ⟨g,1,none⟩ c).setCell ⟨g,2,none⟩ b) g n a c b d:=by
 obtain⟨cs,⟨hb,hn⟩,h0,h1,h2,h3⟩:=h.blk;have hs:3<cs.size:=(Array.getElem?_eq_some_iff.1 h3).1;have hs1:1<cs.size:=by omega
 have hs2:2<cs.size:=by omega
 exact⟨_,⟨(hb.set_ 1 c).set_ 2 b,by simpa using hn⟩,by simp[h0],by simp[hs1],by simp[hs2],by simp[h3]⟩
theorem reverse4_ok{g n c:Nat}{x0 x1 x2 x3:UInt8}{w:World}(h:Four w g n (byteV x0) (byteV x1) (byteV x2) (byteV x3)):Calls Tryz.prog 258 #[.slice (some ⟨g,0,none⟩) 4 c] w fun e w'=>
 e= .returned (.tuple #[])∧Four w' g n (byteV x3) (byteV x2) (byteV x1) (byteV x0)∧Upd (fun k=>k=g) w w':=by
 have H:=qh h;clear h;go_enter Tryz.func258,Tryz.ntmps258
 go_wp2_with fail
 go_loopw [2,3] (fun s2 s3 wr=>∃k:Nat,s2= .int .i64 (k:Int)∧s3= .int .i64 (3 - (k:Int))∧Upd (fun k=>k=g) w wr∧(k=0∧Four wr g n (byteV x0) (byteV x1) (byteV x2) (byteV x3)∨k=1∧Four wr g n (byteV x3) (byteV x1) (byteV x2) (byteV x0)∨k=2∧Four wr g n (byteV x3) (byteV x2) (byteV x1) (byteV x0))) (fun s2 _ _=>2 - (intOf s2).toNat)
 case atStart=>exact⟨0,rfl,rfl,Upd.refl _ _,.inl ⟨rfl,H.out⟩⟩
 case round=>
  obtain⟨k,rfl,rfl,hu,⟨rfl,hF⟩ | ⟨rfl,hF⟩ | ⟨rfl,hF⟩⟩:=hrel
  ·obtain⟨c0,c1,c2,c3,f0,f1,f2,f3⟩:=hF.cells;have HF:=qh hF;have HU:=qh hu;unfold byteV at c0 c1 c2 c3;clear hF hu;go_wp2_with fail
   go_region
   all_goals
    go_wp2_with fail
    go_roundw
    case rel=>
     refine⟨1,by go_num,by go_num,?_,.inr (.inl ⟨rfl,?_⟩)⟩
     ·exact((HU.out.setCell (p:=⟨g,0,none⟩) (fun _=>rfl) _).setCell (p:=⟨g,3,none⟩) (fun _=>rfl) _).drew
     ·exact HF.out.swap.drew
    case measure=>simp[intOf]
  ·obtain⟨c0,c1,c2,c3,f0,f1,f2,f3⟩:=hF.cells;have HF:=qh hF;have HU:=qh hu;unfold byteV at c0 c1 c2 c3;clear hF hu;go_wp2_with fail
   go_region
   all_goals
    go_wp2_with fail
    go_roundw
    case rel=>
     refine⟨2,by go_num,by go_num,?_,.inr (.inr ⟨rfl,?_⟩)⟩
     ·exact((HU.out.setCell (p:=⟨g,1,none⟩) (fun _=>rfl) _).setCell (p:=⟨g,2,none⟩) (fun _=>rfl) _).drew
     ·exact HF.out.swap2.drew
    case measure=>simp[intOf]
  ·have HF:=qh hF;have HU:=qh hu;clear hF hu;go_wp2_with fail
   go_end0;exact⟨rfl,HF.out,HU.out⟩
theorem Four.of_own{B g c:Nat}{w:World}{l:Bs}(h:OwnB B w (.slice (some ⟨g,0,none⟩) 4 c) l)(hl:l.length=4):∃x0 x1 x2 x3,l=[x0,x1,x2,x3]∧Four w g c (byteV x0) (byteV x1) (byteV x2) (byteV x3):=by
 rcases l with _ | ⟨x0,_ | ⟨x1,_ | ⟨x2,_ | ⟨x3,_ | ⟨x4,l⟩⟩⟩⟩⟩<;>simp at hl
 refine⟨x0,x1,x2,x3,rfl,?_⟩
 rcases h.row.2 with⟨e,_⟩ | ⟨g',cap,cur,e,_,hh,hn,hm,hs,ht⟩
 ·cases e
 ·injection e with e1 e2 e3
  injection e1 with e1
  injection e1 with e1
  subst e1 e3
  have key:∀i:Nat,i<4→cur[i]? =[byteV x0,byteV x1,byteV x2,byteV x3][i]? :=fun i hi=>by
   have h1:(cur.toList.take 4)[i]? =[byteV x0,byteV x1,byteV x2,byteV x3][i]? :=by
    have:cur.toList.take 4=[byteV x0,byteV x1,byteV x2,byteV x3]:=by rw[flat_byteC]at ht;simpa [bytesV] using ht
    rw[this]
   rw[←h1,List.getElem?_take_of_lt hi,Array.getElem?_toList]
  exact⟨cur,⟨hh,by simpa using hs⟩,key 0 (by omega),key 1 (by omega),key 2 (by omega),key 3 (by omega)⟩
theorem Four.own{B g c:Nat}{w:World}{x0 x1 x2 x3:UInt8}(h:Four w g c (byteV x0) (byteV x1) (byteV x2) (byteV x3))(hB:B≤g)(hc:c≤maxLen):OwnB B w (.slice (some ⟨g,0,none⟩) 4 c) [x0,x1,x2,x3]:=by
 obtain⟨cs,⟨hb,hn⟩,h0,h1,h2,h3⟩:=h.blk;have hs:3<cs.size:=(Array.getElem?_eq_some_iff.1 h3).1;refine⟨⟨rfl,.inr ⟨g,c,cs,rfl,Nat.zero_le _,hb,by simp;omega,hc,by omega,?_⟩⟩,fun k hk=> ?_⟩
 ·apply List.ext_getElem?;intro i;by_cases hi:i<4
  ·rw[List.getElem?_take_of_lt (by simpa using hi),Array.getElem?_toList]
   rcases(by omega:i=0∨i=1∨i=2∨i=3) with rfl | rfl | rfl | rfl
   ·exact h0
   ·exact h1
   ·exact h2
   ·exact h3
  ·rw[List.getElem?_eq_none (by simp;omega),List.getElem?_eq_none (by simp[byteC];omega)]
 ·have:g=k:=by simpa [Value.ownBlock] using hk
  omega
theorem OwnR.capLe{TE:TypeId}{α:Type}{cells:α→List Value}{sz B:Nat}{w:World}{A:Option Addr}{n c:Nat}{L:List α}(h:OwnR TE cells sz B w (.slice A n c) L):c≤maxLen:=by
 rcases h.row.2 with⟨e,_⟩ | ⟨g',cap,cur,e,_,hh,hn,hm,hs,ht⟩
 ·injection e with _ _ e3;rw[e3];simp[maxLen]
 ·injection e with e1 e2 e3
  omega
theorem OwnR.addr{TE:TypeId}{α:Type}{cells:α→List Value}{sz B:Nat}{w:World}{A:Option Addr}{n c:Nat}{L:List α}(h:OwnR TE cells sz B w (.slice A n c) L)(hL:L≠[]):∃g,A=some ⟨g,0,none⟩∧B≤g:=by
 rcases h.row.2 with⟨e,h0⟩ | ⟨g',cap,cur,e,_,hh,hn,hm,hs,ht⟩
 ·exact absurd (List.length_eq_zero_iff.1 h0) hL
 ·injection e with e1 e2 e3
  subst e1;exact⟨g',rfl,h.new g' rfl⟩
theorem sealSum_ok{b:Bs}{v:Value}{w:World}(h:BytesE w v b)(hl:b.length≤1000000)(hW:HalfW w):Calls Tryz.prog 222 #[v] w fun e w'=>
 ∃A c,e= .returned (.slice A 4 c)∧OwnB w.heap.size w' (.slice A 4 c) (sumB b)∧Upd Nowhere w w':=by
 have H:=qh h;have HW:=qh hW;clear h hW;go_enter Tryz.func222,Tryz.ntmps222
 go_wp2_with fail
 refine(sum_ok H.out hl HW.out).mono ?_;rintro e w1 ⟨rfl,rfl⟩;have hlt:=crcF_lt b;go_wp2_with fail
 refine(wide4_ok (crcF b) hlt _).mono ?_;rintro e w1 ⟨A,c,rfl,hO,hU⟩;obtain⟨g,rfl,hg⟩:=hO.addr (by intro e;have:=wideB_len 4 (crcF b);rw[e]at this;cases this)
 obtain⟨x0,x1,x2,x3,he,hF⟩:=Four.of_own hO (wideB_len 4 _);have HO:=qh hO;have HU:=qh hU;have HE:=qh he;have HF:=qh hF;clear hO hU he hF hlt;go_wp2_with fail
 refine(reverse4_ok HF.out).mono ?_;rintro e w2 ⟨rfl,hF2,hU2⟩;have HF2:=qh hF2;have HU2:=qh hU2;clear hF2 hU2;go_wp2_with fail
 go_ret;refine⟨_,_,rfl,?_,HU.out.trans HU2.out fun k hk e=>by omega⟩
 have:sumB b=[x3,x2,x1,x0]:=by unfold sumB;rw[HE.out];rfl
 rw[this];exact HF2.out.own hg HO.out.capLe
structure WAt(B:Nat)(w:World)(W:Nat)(l:Bs):Prop where
 ex:∃A c,Blk w W 193 #[.slice A l.length c]∧OwnB B w (.slice A l.length c) l
 ge:B≤W
theorem WAt.upd{B W:Nat}{w w':World}{l:Bs}{F:Nat→Prop}(h:WAt B w W l)(hu:Upd F w w')(hF:∀k,B≤k→k<w.heap.size→¬F k):WAt B w' W l:=by
 obtain⟨A,c,hb,ho⟩:=h.ex;exact⟨⟨A,c,hb.upd hu (hF _ h.ge hb.lt),ho.upd hu fun k hk=>hF k (ho.new k hk) (ho.lt hk)⟩,h.ge⟩
theorem WAt.lt{B W:Nat}{w:World}{l:Bs}(h:WAt B w W l):W<w.heap.size:=by obtain⟨A,c,hb,_⟩:=h.ex;exact hb.lt
theorem put_ok{B W:Nat}{l x:Bs}{v:Value}{w:World}(h:WAt B w W l)(hx:BytesE w v x)(hn:l.length+x.length≤100000):Calls Tryz.prog 160 #[.pointer (some ⟨W,0,none⟩),v] w fun e w'=>
 e= .returned (.tuple #[])∧WAt B w' W (l++x)∧Upd (fun k=>B≤k) w w':=by
 obtain⟨A,c,hb,ho⟩:=h.ex;obtain⟨A2,c2,rfl,_⟩:=hx.val;obtain⟨A3,c3,w3,hrun,ho3,hu3⟩:=byte_row.appU ho (by have:=h.ge;have:=hb.lt;omega) 143 hx hn
 have hne:(Value.slice A l.length c).ownBlock≠some W:=own_blk_ne ho.row hb (by decide)
 have hb3:=hb.upd hu3 hne;have hne3:(Value.slice A3 (l.length+x.length) c3).ownBlock≠some W:=own_blk_ne ho3.row hb3 (by decide)
 have hc:=hb.cell 0;have hc3:=hb3.cell 0;have hf3:=hb3.frozen 0;simp only[qA,qZ]at hc hc3;have HB3:=qh hb3;have HO:=qh ho;have HO3:=qh ho3;have HU3:=qh hu3;have HNE:=qh hne3;have HRUN:=qh hrun;have H:=qh h;have HX:=qh hx;clear hb ho hrun ho3 hu3 hne hb3 hne3 h hx;go_enter Tryz.func160,Tryz.ntmps160
 go_wp2_with (at_builtin;refine wpList_append_run rfl _ _ _ rfl rfl rfl HRUN.out ?_)
 go_end0;refine⟨rfl,⟨⟨A3,c3,by rw[qla];exact HB3.out.set_ 0 _,by rw[qla];exact HO3.out.upd ((Upd.refl (fun k=>k=W) w3).setCell (fun _=>rfl) _) fun k hk e=>HNE.out (e▸hk)⟩,H.out.ge⟩,?_⟩
 exact(HU3.out.mono fun k _ hk=>HO.out.new k hk).setCell (fun _=>H.out.ge) _
theorem wnum_ok{B W:Nat}{l:Bs}{w:World}(h:WAt B w W l)(n:Nat)(hn:n<9223372036854775808)(hl:l.length≤90000):Calls Tryz.prog 112 #[.pointer (some ⟨W,0,none⟩),.int .i64 (n:Int)] w fun e w'=>
 e= .returned (.tuple #[])∧WAt B w' W (l++shortB n)∧Upd (fun k=>B≤k) w w':=by
 have H:=qh h;have hs:(shortB n).length≤10:=shortB_len_le (k:=9) (by omega)
 have hn0:(0:Int)≤(n:Int):=by omega
 have HS:=qh hs;clear h hs;go_enter Tryz.func112,Tryz.ntmps112
 go_wp2_with fail
 refine(short_ok n hn _).mono ?_;rintro e w1 ⟨A,c,rfl,hO,hU⟩;have HW:=qh (H.out.upd hU fun _ _ _=>id)
 have HE:=qh hO.els;have HU:=qh hU;clear hO hU;go_wp2_with fail
 refine(put_ok HW.out HE.out (by have:=HS.out;omega)).mono ?_
 rintro e w2 ⟨rfl,hW,hU⟩;have HW2:=qh hW;have HU2:=qh hU;clear hW hU;go_wp2_with fail
 go_end0;exact⟨rfl,HW2.out,HU.out.any.same HU2.out⟩
theorem wtext_ok{B W:Nat}{l:Bs}{w:World}(h:WAt B w W l)(s:Bs)(hn:s.length≤5000)(hl:l.length≤80000):Calls Tryz.prog 221 #[.pointer (some ⟨W,0,none⟩),.string ⟨s.toArray⟩] w fun e w'=>
 e= .returned (.tuple #[])∧WAt B w' W (l++textB s)∧Upd (fun k=>B≤k) w w':=by
 have H:=qh h;have hs:(shortB s.length).length≤10:=shortB_len_le (k:=9) (by omega)
 have HS:=qh hs;clear h hs;go_enter Tryz.func221,Tryz.ntmps221
 go_wp2_with fail
 refine(wnum_ok H.out s.length (by omega) (by omega)).mono ?_
 rintro e w1 ⟨rfl,hW,hU⟩;have HW:=qh hW;have HU:=qh hU;clear hW hU;obtain⟨c,w2,hrun,hE,hU2,hsz,_⟩:=conv_bytes w1 s;have HRUN:=qh hrun;have HE:=qh hE;have HU2:=qh hU2;have HW2:=qh (HW.out.upd hU2 fun _ _ _=>id)
 clear hrun hE hU2 hsz;go_wp2_with (refine wpList_conv_run rfl 9 143 _ rfl rfl HRUN.out ?_)
 refine(put_ok HW2.out HE.out (by have:=HS.out;simp only[qla];omega)).mono ?_
 rintro e w3 ⟨rfl,hW,hU3⟩;have HW3:=qh hW;have HU3:=qh hU3;clear hW hU3;go_wp2_with fail
 go_end0;refine⟨rfl,?_,(HU.out.same HU2.out.any).same HU3.out⟩;have:=HW3.out;rw[qaa]at this;exact this
theorem wbytes_ok{B W:Nat}{l:Bs}{w:World}(h:WAt B w W l)(hl:l.length≤90000):Calls Tryz.prog 113 #[.pointer (some ⟨W,0,none⟩)] w fun e w'=>
 ∃A c,e= .returned (.slice A l.length c)∧OwnB w.heap.size w' (.slice A l.length c) l∧Upd Nowhere w w':=by
 obtain⟨A,c,hb,ho⟩:=h.ex;have hc:=hb.cell 0;simp only[qA,qZ]at hc;obtain⟨A3,c3,w3,hrun,ho3,hu3⟩:=byte_row.appU (OwnR.lit 5 byteC 1 w.heap.size w (qlr _)) (by simp) 143 (ho.els.alloc _) (by simp;omega)
 simp only[List.length_nil,Nat.zero_add,List.nil_append]at hrun ho3;have HRUN:=qh hrun;have HO3:=qh ho3;have HU3:=qh hu3;have hlt:=hb.lt;clear hrun ho3 hu3 hb ho h;go_enter Tryz.func113,Tryz.ntmps113
 go_wp2_with (at_builtin;refine wpList_append_run rfl _ _ _ rfl rfl rfl HRUN.out ?_)
 go_ret;exact⟨A3,c3,rfl,HO3.out,((Upd.refl _ w).alloc _).trans HU3.out fun k hk e=>by simp[Value.ownBlock]at e;omega⟩
theorem takeGo_le:∀(b:Bs) (n i:Nat),(takeGo n i b).2.1≤i+b.length:=by
 intro b
 induction b with
 | nil=>intro n i;simp[takeGo]
 | cons c b ih=>
   intro n i;rw[takeGo];split
   ·simp
   ·split
    ·simp
    ·split
     ·simp
     ·have:=ih (n * 128+c.toNat % 128) (i+1);simp;omega
theorem takeGo_lt:∀(b:Bs) (n i:Nat),n<18446744073709551616→(takeGo n i b).1<18446744073709551616:=by
 intro b
 induction b with
 | nil=>intro n i h;simp[takeGo]
 | cons c b ih=>
   intro n i h;rw[takeGo];split
   ·simp
   ·split
    ·simp
    ·split
     ·simp;omega
     ·exact ih _ _ (by omega)
theorem numberB_ok{b:Bs}{most n k:Nat}{e:Int}(h:numberB b most=(n,k,e)):n≤most∧k≤b.length∧(e≠0→n=0∧k=0):=by
 have h1:=takeGo_le b 0 0;unfold numberB takeShort at h;split at h
 rename_i n' k' e' he
 rw[he]at h1;simp only[Nat.zero_add]at h1;split at h
 ·cases h;exact⟨by omega,by omega,fun _=>⟨rfl,rfl⟩⟩
 ·split at h
  ·cases h;exact⟨by omega,by omega,fun _=>⟨rfl,rfl⟩⟩
  ·cases h;exact⟨by omega,h1,fun h=>absurd rfl h⟩
theorem number_ok{b:Bs}{v:Value}{w:World}(h:BytesE w v b)(hl:b.length≤1000000)(most:Nat)(hm:most<9223372036854775808):Calls Tryz.prog 181 #[v,.int .i64 (most:Int)] w fun e w'=>
 e= .returned (.tuple #[.int .i64 ((numberB b most).1:Nat),.int .i64 ((numberB b most).2.1:Nat),.int .i64 (numberB b most).2.2])∧w'=w:=by
 have hlt:=takeGo_lt b 0 0 (by omega)
 have hle:=takeGo_le b 0 0;have hE:numberB b most=(match takeShort b with | (n,k,e)=>if e≠0 then (0,0,e) else if most<n then (0,0,12) else (n,k,0)):=rfl
 have hT:=takeShort_ok h hl;have e1:takeGo 0 0 b=takeShort b:=rfl;rw[e1]at hlt hle;generalize takeShort b=T at hlt hle hE hT;obtain⟨n,k,e⟩:=T;simp only[Nat.zero_add]at hlt hle hE hT;have HE:=qh hE;have HT:=qh hT;have hm0:(0:Int)≤(most:Int):=by omega
 have hm1:IntKind.u64.wrap (most:Int)=most:=by rw[IntKind.wrap_u64];omega
 have HL:=qh hlt;have HM:=qh hm;clear h hE hT e1 hm hlt hle;by_cases he:e=0
 ·subst he;by_cases hn:most<n
  ·have hn':(most:Int)<(n:Int):=by omega
   have HN:=qh hn;clear hn;go_enter Tryz.func181,Tryz.ntmps181
   go_wp2_with fail
   refine(HT.out).mono ?_;rintro e w1 ⟨rfl,rfl⟩;go_wp2_with fail
   go_ret3
   exact⟨by rw[HE.out];simp[HN.out],rfl⟩
  ·have hn':¬(most:Int)<(n:Int):=by omega
   have hn2:IntKind.i64.wrap (n:Int)=n:=IntWalk.i64_in _ (by have:=HM.out;omega)
   have HN:=qh hn;clear hn;go_enter Tryz.func181,Tryz.ntmps181
   go_wp2_with fail
   refine(HT.out).mono ?_;rintro e w1 ⟨rfl,rfl⟩;go_wp2_with fail
   go_ret3
   exact⟨by rw[HE.out];simp[HN.out],rfl⟩
 ·have he':(e != 0)=true:=by simpa using he
  go_enter Tryz.func181,Tryz.ntmps181
  go_wp2_with fail
  refine(HT.out).mono ?_;rintro e w1 ⟨rfl,rfl⟩;go_wp2_with fail
  go_ret3
  exact⟨by rw[HE.out];simp[he],rfl⟩
def U8(w:World)(k:Nat):Prop:=∃cs fz,w.heap[k]? =some (.cells cs 5 fz)
theorem U8.upd{F:Nat→Prop}{w w':World}{k:Nat}(h:U8 w k)(hu:Upd F w w')(hF:¬F k):U8 w' k:=by
 obtain⟨cs,fz,h⟩:=h;exact⟨cs,fz,(hu.block _ (lt_of_heap h) hF).trans h⟩
theorem U8.ne{w:World}{k g:Nat}{t:TypeId}{cs:Array Value}(h:U8 w k)(hb:Blk w g t cs)(ht:t≠5):k≠g:=by
 rintro rfl;obtain⟨cs',fz,h⟩:=h;unfold Blk at hb;rw[hb]at h;injection h with h
 injection h with _ h2 _
 exact ht h2
structure RAt(w:World)(R:Nat)(s:RS):Prop where
 ex:∃bb off c,Blk w R 257 #[.slice (some ⟨bb,off,none⟩) s.1.length c,.int .i64 s.2]∧BytesE w (.slice (some ⟨bb,off,none⟩) s.1.length c) s.1∧U8 w bb
theorem RAt.lt{w:World}{R:Nat}{s:RS}(h:RAt w R s):R<w.heap.size:=by obtain⟨_,_,_,h,_⟩:=h.ex;exact h.lt
def NoU8(F:Nat→Prop)(w:World):Prop:=∀k,F k→¬U8 w k
theorem RAt.upd{F:Nat→Prop}{w w':World}{R:Nat}{s:RS}(h:RAt w R s)(hu:Upd F w w')(hR:¬F R)(hF:NoU8 F w):RAt w' R s:=by
 obtain⟨bb,off,c,hb,he,h8⟩:=h.ex;have hn:¬F bb:=fun hf=>hF bb hf h8
 exact⟨bb,off,c,hb.upd hu hR,he.upd hu fun k hk=>by
  have:bb=k:=by simpa [Value.ownBlock] using hk
  exact this▸hn,h8.upd hu hn⟩
theorem RAt.cut{w:World}{R bb off c k off' c':Nat}{b:Bs}(hB:Blk w R 257 #[.slice (some ⟨bb,off,none⟩) b.length c,.int .i64 0])(hE:BytesE w (.slice (some ⟨bb,off,none⟩) b.length c) b)(h8:U8 w bb)(hne:bb≠R)(hk:k≤b.length)
 (hc:off'=off+k∧c'=c - k∨k=b.length):RAt (w.setCell ⟨R,0,none⟩ (.slice (some ⟨bb,off',none⟩) (b.length - k) c')) R (b.drop k,0):=by
 have hu:=Upd.one w R 0 (.slice (some ⟨bb,off',none⟩) (b.length - k) c');have hl:(b.drop k).length=b.length - k:=by simp
 have hbl:bb<w.heap.size:=by obtain⟨_,_,h⟩:=h8;exact lt_of_heap h
 refine⟨bb,off',c',by rw[hl];exact hB.set_ 0 _,?_,h8.upd hu hne⟩
 rw[hl]
 have hcc:b.length≤c:=by
  obtain⟨_,_,e,h,_⟩:=hE;injection e with _ _ e3
  omega
 rcases hc with⟨rfl,rfl⟩ | hk'
 ·have:=Els.part byteC_len hE k (b.length - k) (by omega) (by omega:b.length - k≤c - k) hbl
  rw[Nat.mul_one,List.take_of_length_le (by simp)]at this
  exact this.upd hu fun k hk=>by
   have:bb=k:=by simpa [Value.ownBlock] using hk
   omega
 ·have:b.drop k=[]:=by rw[hk'];simp
  rw[this,hk',Nat.sub_self];exact⟨_,_,rfl,Nat.zero_le _,rfl,fun h=>absurd h (by simp)⟩
theorem ret_none{P:Program}{fn:Func}{R:Ending→World→Prop}{a:Act}{w:World}(h:fn.results=#[])(hd:a.defers=[])(hR:R (.returned (.tuple #[])) w):bodyPost P fn R .ret a w:=
 bodyPost_ret (results_none h _ _ _) hd hR
theorem try_ok'{R:Nat}{b:Bs}{w:World}(h:RAt w R (b,0))(f:FuncId)(caps:Array Value)(hcf:∀args w,(callFunc f args).run Tryz.prog w= .ok (.enter f args) w)(args:Value→Array Value)(hargs:∀v,#[v]++caps=args v)
 (S:Nat→Prop) (hS:¬S R) (hSU:NoU8 S w) (K:Nat→Int→World→Prop)
 (hdo:∀bb off c,BytesE w (.slice (some ⟨bb,off,none⟩) b.length c) b→bb<w.heap.size→Calls Tryz.prog f (args (.slice (some ⟨bb,off,none⟩) b.length c)) w fun e w2=>∃(k:Nat) (x:Int),e= .returned (.tuple #[.int .i64 (k:Int),.int .i64 x])∧k≤b.length∧Upd S w w2∧K k x w2):
 Calls Tryz.prog 179 #[.pointer (some ⟨R,0,none⟩),.func (.func f) #[] caps] w fun e w'=>
  ∃(k:Nat) (x:Int) (w2:World),e= .returned (.tuple #[])∧Upd S w w2∧K k x w2∧Upd (fun k=>k=R) w2 w'∧RAt w' R (if x≠0 then (b,x) else (b.drop k,0)):=by
 obtain⟨bb,off,c,hb,hE,h8⟩:=h.ex;have hbl:bb<w.heap.size:=by obtain⟨_,_,h⟩:=h8;exact lt_of_heap h
 have hc0:=hb.cell 0;have hc1:=hb.cell 1;simp only[qA,qZ,qS]at hc0 hc1;have HB:=qh hb;have HE:=qh hE;have H8:=qh h8;simp only[←hargs]at hdo;have HD:=qh hdo;have HSU:=qh hSU;have H:=qh h;clear hb hE h8 hdo h hSU hargs;go_enter Tryz.func179,Tryz.ntmps179
 go_wp2_with fail
 refine(HD.out _ _ _ HE.out hbl).mono ?_;rintro e w2 ⟨k,x,rfl,hk,hU,hK⟩;have hR:w2.cell? ⟨R,0,none⟩=some (.slice (some ⟨bb,off,none⟩) b.length c):=by rw[←hc0];exact hU.cell (p:=⟨R,0,none⟩) HB.out.lt hS
 have hR1:w2.cell? ⟨R,1,none⟩=some (.int .i64 0):=by rw[←hc1];exact hU.cell (p:=⟨R,1,none⟩) HB.out.lt hS
 have hB2:=HB.out.upd hU hS;have hf0:=hB2.frozen 0;have hf1:=hB2.frozen 1;have hRbb:bb≠R:=H8.out.ne HB.out (by decide)
 have HB2:=qh hB2;have HU:=qh hU;have HK:=qh hK;have hnb:¬S bb:=fun hs=>HSU.out bb hs H8.out
 have HE2:=qh (HE.out.upd hU fun k hk=>by
  have:bb=k:=by simpa [Value.ownBlock] using hk
  exact this▸hnb)
 have H82:=qh (H8.out.upd hU hnb);clear hB2 hU hK hc0 hc1;by_cases hx:x=0
 ·subst hx;have hki:(k:Int)≤(b.length:Nat):=by omega
  have hkc:k≤c:=Nat.le_trans hk (by obtain⟨_,_,e,h,_⟩:=HE.out;injection e with _ _ e3;omega)
  by_cases hck:c=k
  ·have hk2:k=b.length:=by
    obtain⟨_,_,e,h,_⟩:=HE.out;injection e with _ _ e3
    omega
   have HK2:=qh hk2;clear hk2;go_wp2_with fail
   go_end0;exact⟨k,0,w2,rfl,HU.out,HK.out,Upd.one _ _ _ _,RAt.cut HB2.out HE2.out H82.out hRbb hk (.inr HK2.out)⟩
  ·go_wp2_with fail
   go_end0;exact⟨k,0,w2,rfl,HU.out,HK.out,Upd.one _ _ _ _,RAt.cut HB2.out HE2.out H82.out hRbb hk (.inl ⟨rfl,rfl⟩)⟩
 ·have hx':(x != 0)=true:=by simpa using hx
  go_wp2_with fail
  refine ret_none rfl rfl ?_;refine⟨k,x,w2,rfl,HU.out,HK.out,Upd.one _ _ _ _,?_⟩;rw[if_pos hx];have hu:Upd (fun k=>k=R) w2 (w2.setCell ⟨R,1,none⟩ (.int .i64 x)):=Upd.one _ _ _ _
  exact⟨bb,off,c,HB2.out.set_ 1 _,HE2.out.upd hu fun k hk=>by
   have:bb=k:=by simpa [Value.ownBlock] using hk
   omega,H82.out.upd hu hRbb⟩
theorem try_ok{R:Nat}{b:Bs}{w:World}(h:RAt w R (b,0))(f:FuncId)(caps:Array Value)(hcf:∀args w,(callFunc f args).run Tryz.prog w= .ok (.enter f args) w)(args:Value→Array Value)(hargs:∀v,#[v]++caps=args v)
 (S:Nat→Prop) (hS:¬S R) (hSU:NoU8 S w) (K:Nat→Int→World→Prop)
 (hdo:∀v,BytesE w v b→Calls Tryz.prog f (args v) w fun e w2=>∃(k:Nat) (x:Int),e= .returned (.tuple #[.int .i64 (k:Int),.int .i64 x])∧k≤b.length∧Upd S w w2∧K k x w2):
 Calls Tryz.prog 179 #[.pointer (some ⟨R,0,none⟩),.func (.func f) #[] caps] w fun e w'=>
  ∃(k:Nat) (x:Int) (w2:World),e= .returned (.tuple #[])∧Upd S w w2∧K k x w2∧Upd (fun k=>k=R) w2 w'∧RAt w' R (if x≠0 then (b,x) else (b.drop k,0)):=try_ok' h f caps hcf args hargs S hS hSU K fun _ _ _ hv _=>hdo _ hv
theorem num1_ok{b:Bs}{v:Value}{w:World}(h:BytesE w v b)(hl:b.length≤1000000)(most:Nat)(hm:most<9223372036854775808){B1 B2:Nat}(h1:Blk w B1 3 #[.int .i64 most])(h2:Blk w B2 3 #[.int .i64 0]):
 Calls Tryz.prog 180 #[v,.pointer (some ⟨B1,0,none⟩),.pointer (some ⟨B2,0,none⟩)] w fun e w'=>
  e= .returned (.tuple #[.int .i64 ((numberB b most).2.1:Nat),.int .i64 (numberB b most).2.2])∧w'=w.setCell ⟨B2,0,none⟩ (.int .i64 ((numberB b most).1:Nat)):=by
 have HN:=qh (number_ok h hl most hm);have c1:=h1.cell 0;have c2:=h2.cell 0;have f2:=h2.frozen 0;simp only[qA,qZ]at c1 c2;obtain⟨A,c,rfl,hc⟩:=h.val;clear h h1 h2 hm hl hc;generalize numberB b most=T at HN;obtain⟨n,k,e⟩:=T;go_enter Tryz.func180,Tryz.ntmps180
 go_wp2_with fail
 refine(HN.out).mono ?_;rintro e w1 ⟨rfl,rfl⟩;go_wp2_with fail
 go_ret2;exact⟨rfl,rfl⟩
theorem try_bad{R:Nat}{s:RS}{w:World}(h:RAt w R s)(hs:s.2≠0)(f:Value):
 Calls Tryz.prog 179 #[.pointer (some ⟨R,0,none⟩),f] w fun e w'=>e= .returned (.tuple #[])∧w'=w:=by
 obtain⟨bb,off,c,hb,_,_⟩:=h.ex;have hc1:=hb.cell 1;simp only[qA,qZ,qS]at hc1;have hs':(s.2 != 0)=true:=by simpa using hs
 clear hb h hs;go_enter Tryz.func179,Tryz.ntmps179
 go_wp2_with fail
 exact ret_none rfl rfl ⟨rfl,rfl⟩
theorem textB_pieces{w:World}{bb off c:Nat}{b:Bs}(h:BytesE w (.slice (some ⟨bb,off,none⟩) b.length c) b)(h8:bb<w.heap.size)(k n:Nat)(hk:k+n≤b.length):BytesE w (.slice (some ⟨bb,off+k,none⟩) n (c - k)) ((b.drop k).take n):=by
 have hc:b.length≤c:=by
  obtain⟨_,_,e,h,_⟩:=h;injection e with _ _ e3
  omega
 have:=Els.part byteC_len h k n hk (by omega:n≤c - k) h8
 rw[Nat.mul_one]at this;exact this
theorem text1_ok{b:Bs}{bb off c:Nat}{w:World}(h:BytesE w (.slice (some ⟨bb,off,none⟩) b.length c) b)(h8:bb<w.heap.size)(hl:b.length≤1000000)(most:Nat)(hm:most<1000000000){B1 B2:Nat}(h1:Blk w B1 3 #[.int .i64 most])(h2:Blk w B2 9 #[strV []]):
 Calls Tryz.prog 253 #[.slice (some ⟨bb,off,none⟩) b.length c,.pointer (some ⟨B1,0,none⟩),.pointer (some ⟨B2,0,none⟩)] w fun e w'=>
  ∃(k:Nat) (x:Int) (t:Bs),e= .returned (.tuple #[.int .i64 k,.int .i64 x])∧k≤b.length∧Blk w' B2 9 #[strV t]∧Upd (fun k=>k=B2) w w'∧textR most (b,0)=(t,if x≠0 then (b,x) else (b.drop k,0)):=by
 have HN:=qh (number_ok h hl most (by omega))
 have hE:textR most (b,0)=(match numberB b most with | (n,k,e)=>if e≠0 then ([],(b,e)) else if b.length - k<n then ([],(b,10)) else ((b.drop k).take n,(b.drop (k+n),0))):=by
  unfold textR;simp
 have c1:=h1.cell 0;have c2:=h2.cell 0;have f2:=h2.frozen 0;simp only[qA,qZ]at c1 c2;have hle:∀{n k:Nat} {e:Int},numberB b most=(n,k,e)→n≤most∧k≤b.length∧(e≠0→n=0∧k=0):=numberB_ok
 have hcap:b.length≤c:=by
  obtain⟨_,_,e,h,_⟩:=h;injection e with _ _ e3
  omega
 generalize numberB b most=T at HN hE hle;obtain⟨n,k,e⟩:=T;obtain⟨hn,hk,he0⟩:=hle rfl;simp only at hE HN;have HE:=qh hE;have H2:=qh h2;have H:=qh h;have hml:=qh hm;have hll:=qh hl;have h0:=qh he0;clear h h1 h2 hm hl hE hle he0;by_cases he:e=0
 ·subst he;by_cases hs:b.length - k<n
  ·have hki:(k:Int)≤(b.length:Nat):=by omega
   have hs':((b.length:Nat):Int) - (k:Int)<(n:Int):=by omega
   have hs2:=qh hs;have hb0:((b.length:Nat):Int)≤1000000:=by have:=hll.out;omega
   have HK:=qh hk;clear hs hn hk;go_enter Tryz.func253,Tryz.ntmps253
   go_wp2_with fail
   refine(HN.out).mono ?_;rintro e w1 ⟨rfl,rfl⟩;go_wp2_with fail
   go_ret2;exact⟨0,10,[],rfl,by omega,H2.out,Upd.refl _ _,by rw[HE.out];simp[hs2.out]⟩
  ·have hki:(k:Int)≤(b.length:Nat):=by omega
   have hs':¬((b.length:Nat):Int) - (k:Int)<(n:Int):=by omega
   have hkn:(k:Int)+(n:Int)≤(b.length:Nat):=by omega
   have hknc:k+n≤c:=by omega
   have hb0:((b.length:Nat):Int)≤1000000:=by have:=hll.out;omega
   have hs2:=qh hs;have HK:Hid (k+n≤b.length):=qh (by omega)
   have HP:=qh (textB_pieces H.out h8 k n HK.out);have HV:Hid ((convert 143 9 (.slice (some ⟨bb,off+k,none⟩) (k+n - k) (c - k))).run Tryz.prog w= .ok (strV ((b.drop k).take n)) w):=qh (by rw[show k+n - k=n by omega];exact conv_back HP.out)
   clear hs hn hk;by_cases hck:c=k
   ·have hn0:n=0:=by omega
    subst hn0;subst hck;have hV0:(convert 143 9 (.slice (some ⟨bb,off,none⟩) 0 0)).run Tryz.prog w= .ok (strV []) w:=conv_back ⟨_,_,rfl,Nat.zero_le _,rfl,fun h=>absurd h (by simp)⟩
    have HV0:=qh hV0;clear hV0;go_enter Tryz.func253,Tryz.ntmps253
    go_wp2_with fail
    refine(HN.out).mono ?_;rintro e w1 ⟨rfl,rfl⟩;go_wp2_with (refine wpList_conv_run rfl 143 9 _ rfl rfl HV0.out ?_)
    go_ret2;exact⟨c,0,[],by simp,by have:=HK.out;omega,H2.out.set_ 0 _,Upd.one _ _ _ _,by rw[HE.out];simp⟩
   ·go_enter Tryz.func253,Tryz.ntmps253
    go_wp2_with fail
    refine(HN.out).mono ?_;rintro e w1 ⟨rfl,rfl⟩;go_wp2_with (refine wpList_conv_run rfl 143 9 _ rfl rfl HV.out ?_)
    go_ret2;exact⟨k+n,0,(b.drop k).take n,rfl,HK.out,H2.out.set_ 0 _,Upd.one _ _ _ _,by rw[HE.out];simp[hs2.out]⟩
 ·have he':(e != 0)=true:=by simpa using he
  have hE0:=qh he;clear he;go_enter Tryz.func253,Tryz.ntmps253
  go_wp2_with fail
  refine(HN.out).mono ?_;rintro e w1 ⟨rfl,rfl⟩;go_wp2_with fail
  go_ret2;exact⟨0,e,[],rfl,by omega,H2.out,Upd.refl _ _,by rw[HE.out];simp[hE0.out]⟩
theorem cf_num1(args:Array Value)(w:World):(callFunc 180 args).run Tryz.prog w= .ok (.enter 180 args) w:=by kernel_rfl
theorem cf_text1(args:Array Value)(w:World):(callFunc 253 args).run Tryz.prog w= .ok (.enter 253 args) w:=by kernel_rfl
theorem cf_flag1(args:Array Value)(w:World):(callFunc 254 args).run Tryz.prog w= .ok (.enter 254 args) w:=by kernel_rfl
theorem cf_end1(args:Array Value)(w:World):(callFunc 194 args).run Tryz.prog w= .ok (.enter 194 args) w:=by kernel_rfl
theorem noU8_blk{w:World}{g t:Nat}{cs:Array Value}(h:Blk w g t cs)(ht:t≠5):NoU8 (fun k=>k=g) w:=fun _ hk h8=>h8.ne h ht hk
theorem rnum_ok{w:World}{R:Nat}{s:RS}(h:RAt w R s)(hl:s.1.length≤1000000)(most:Nat)(hm:most<9223372036854775808):Calls Tryz.prog 125 #[.pointer (some ⟨R,0,none⟩),.int .i64 (most:Int)] w fun e w'=>
 e= .returned (.int .i64 ((numR most s).1:Nat))∧RAt w' R (numR most s).2∧Upd (fun k=>k=R) w w':=by
 obtain⟨b,x⟩:=s;have hR:=h.lt;have h1:=Blk.new w 3 #[.int .i64 (most:Int)];have h1':=h1.alloc (.cells #[.int .i64 0] 3);have h2:=Blk.new (w.alloc (.cells #[.int .i64 (most:Int)] 3)) 3 #[.int .i64 0];have hu:=((Upd.refl Nowhere w).alloc (.cells #[.int .i64 (most:Int)] 3)).alloc (.cells #[.int .i64 0] 3);have hA:=h.upd hu id fun _ h=>absurd h id
 have hsz:(w.alloc (.cells #[.int .i64 (most:Int)] 3)).heap.size=w.heap.size+1:=by simp
 rw[hsz]at h2;by_cases hx:x=0
 ·subst hx;have H1:=qh h1';have H2:=qh h2;have HA:=qh hA;have HU:=qh hu;have HL:=qh hl;have HM:=qh hm;have HR:=qh hR;clear h1 h1' h2 hA hu h hsz hl hm hR;go_enter Tryz.func125,Tryz.ntmps125
  go_wp2_with fail
  refine(try_ok HA.out 180 _ cf_num1 (fun v=>#[v,.pointer (some ⟨w.heap.size,0,none⟩),.pointer (some ⟨w.heap.size+1,0,none⟩)]) (fun _=>rfl) (fun k=>k=w.heap.size+1) (by have:=HR.out;omega) (noU8_blk H2.out (by decide))
   (fun k x w2=>k=(numberB b most).2.1∧x=(numberB b most).2.2∧Blk w2 (w.heap.size+1) 3 #[.int .i64 ((numberB b most).1:Nat)])
   (fun v hv=>(num1_ok hv HL.out most HM.out H1.out H2.out).mono ?_)).mono ?_
  ·rintro e w2 ⟨rfl,rfl⟩;exact⟨_,_,rfl,(numberB_ok (n:=(numberB b most).1) (k:=(numberB b most).2.1) (e:=(numberB b most).2.2) rfl).2.1,Upd.one _ _ _ _,rfl,rfl,H2.out.set_ 0 _⟩
  rintro e w3 ⟨k,x,w2,rfl,hU1,⟨rfl,rfl,hB⟩,hU2,hRA⟩;have hB3:=hB.upd hU2 (by have:=HR.out;omega)
  have hc:=hB3.cell 0;simp only[qA,qZ]at hc;have HU1:=qh hU1;have HU2:=qh hU2;have HRA:=qh hRA;clear hU1 hU2 hRA hB hB3
  have HE:Hid (numR most (b,0)=((numberB b most).1,if (numberB b most).2.2≠0 then (b,(numberB b most).2.2) else (b.drop (numberB b most).2.1,0))):=qh (by
   unfold numR;have:=numberB_ok (b:=b) (most:=most) (n:=(numberB b most).1) (k:=(numberB b most).2.1) (e:=(numberB b most).2.2) rfl;generalize numberB b most=T at this;obtain⟨n,k,e⟩:=T;by_cases he:e=0
   ·simp[he]
   ·obtain⟨_,_,h0⟩:=this;simp only at h0;simp[he,(h0 he).1])
  go_wp2_with fail
  go_ret;rw[HE.out];exact⟨rfl,HRA.out,(HU.out.any.trans HU1.out fun k hk e=>absurd hk (by omega)).same HU2.out⟩
 ·have HB:=fun f=>qh (try_bad hA hx f)
  have hc:((w.alloc (.cells #[.int .i64 (most:Int)] 3)).alloc (.cells #[.int .i64 0] 3)).cell? ⟨w.heap.size+1,0,none⟩=some (.int .i64 0):=by rw[h2.cell];rfl
  have HA:=qh hA;have HU:=qh hu;have HX:=qh hx;clear h1 h1' h2 hA hu h hsz hl hm hR hx;go_enter Tryz.func125,Tryz.ntmps125
  go_wp2_with fail
  refine(HB _).out.mono ?_;rintro e w3 ⟨rfl,rfl⟩;go_wp2_with fail
  go_ret;have e:numR most (b,x)=(0,(b,x)):=by unfold numR;rw[if_pos HX.out]
  rw[e];exact⟨rfl,HA.out,HU.out.any⟩
theorem rtext_ok{w:World}{R:Nat}{s:RS}(h:RAt w R s)(hl:s.1.length≤1000000)(most:Nat)(hm:most<1000000000):Calls Tryz.prog 212 #[.pointer (some ⟨R,0,none⟩),.int .i64 (most:Int)] w fun e w'=>
 e= .returned (strV (textR most s).1)∧RAt w' R (textR most s).2∧Upd (fun k=>k=R) w w':=by
 obtain⟨b,x⟩:=s;have hR:=h.lt;have h1:=Blk.new w 3 #[.int .i64 (most:Int)];have h1':=h1.alloc (.cells #[strV []] 9);have h2:=Blk.new (w.alloc (.cells #[.int .i64 (most:Int)] 3)) 9 #[strV []];have hu:=((Upd.refl Nowhere w).alloc (.cells #[.int .i64 (most:Int)] 3)).alloc (.cells #[strV []] 9);have hA:=h.upd hu id fun _ h=>absurd h id
 have hsz:(w.alloc (.cells #[.int .i64 (most:Int)] 3)).heap.size=w.heap.size+1:=by simp
 rw[hsz]at h2;by_cases hx:x=0
 ·subst hx;have H1:=qh h1';have H2:=qh h2;have HA:=qh hA;have HU:=qh hu;have HL:=qh hl;have HM:=qh hm;have HR:=qh hR;clear h1 h1' h2 hA hu h hsz hl hm hR;go_enter Tryz.func212,Tryz.ntmps212
  go_wp2_with fail
  refine(try_ok' HA.out 253 _ cf_text1 (fun v=>#[v,.pointer (some ⟨w.heap.size,0,none⟩),.pointer (some ⟨w.heap.size+1,0,none⟩)]) (fun _=>rfl) (fun k=>k=w.heap.size+1) (by have:=HR.out;omega) (noU8_blk H2.out (by decide))
   (fun k x w2=>∃t,Blk w2 (w.heap.size+1) 9 #[strV t]∧textR most (b,0)=(t,if x≠0 then (b,x) else (b.drop k,0)))
   (fun bb off c hv hlt=>(text1_ok hv hlt HL.out most HM.out H1.out H2.out).mono ?_)).mono ?_
  ·rintro e w2 ⟨k,x,t,rfl,hk,hB,hU,hE⟩;exact⟨_,_,rfl,hk,hU,t,hB,hE⟩
  rintro e w3 ⟨k,x,w2,rfl,hU1,⟨t,hB,hE⟩,hU2,hRA⟩;have hB3:=hB.upd hU2 (by have:=HR.out;omega)
  have hc:=hB3.cell 0;simp only[qA,qZ]at hc;have HU1:=qh hU1;have HU2:=qh hU2;have HRA:=qh hRA;have HE:=qh hE;clear hU1 hU2 hRA hB hB3 hE;go_wp2_with fail
  go_ret;rw[HE.out];exact⟨rfl,HRA.out,(HU.out.any.trans HU1.out fun k hk e=>absurd hk (by omega)).same HU2.out⟩
 ·have HB:=fun f=>qh (try_bad hA hx f)
  have hc:((w.alloc (.cells #[.int .i64 (most:Int)] 3)).alloc (.cells #[strV []] 9)).cell? ⟨w.heap.size+1,0,none⟩=some (strV []):=by rw[h2.cell];rfl
  have HA:=qh hA;have HU:=qh hu;have HX:=qh hx;clear h1 h1' h2 hA hu h hsz hl hm hR hx;go_enter Tryz.func212,Tryz.ntmps212
  go_wp2_with fail
  refine(HB _).out.mono ?_;rintro e w3 ⟨rfl,rfl⟩;go_wp2_with fail
  go_ret;have e:textR most (b,x)=([],(b,x)):=by unfold textR;rw[if_pos HX.out]
  rw[e];exact⟨rfl,HA.out,HU.out.any⟩
def FlagP(b:Bs)(B2:Nat)(w:World)(e:Ending)(w':World):Prop:=
 ∃(k:Nat) (x:Int) (t:Bool),e= .returned (.tuple #[.int .i64 k,.int .i64 x])∧k≤b.length∧Blk w' B2 4 #[.bool t]∧Upd (fun k=>k=B2) w w'∧flagR (b,0)=(t,if x≠0 then (b,x) else (b.drop k,0))
theorem flag1_ok{b:Bs}{bb off c:Nat}{w:World}(h:BytesE w (.slice (some ⟨bb,off,none⟩) b.length c) b)(hl:b.length≤1000000){B2:Nat}(h2:Blk w B2 4 #[.bool false]):
 Calls Tryz.prog 254 #[.slice (some ⟨bb,off,none⟩) b.length c,.pointer (some ⟨B2,0,none⟩)] w (FlagP b B2 w):=by
 have c2:=h2.cell 0;have f2:=h2.frozen 0;simp only[qA,qZ]at c2;have H2:=qh h2;have H:=qh h;clear h h2
 rcases b with _ | ⟨y,b⟩
 ·go_enter Tryz.func254,Tryz.ntmps254
  go_wp2_with fail
  go_ret2;exact⟨0,10,false,rfl,by omega,H2.out,Upd.refl _ _,rfl⟩
 ·obtain⟨b',off',cp,he,_,h0⟩:=byte_at H.out (i:=0) (c:=y) rfl;injection he with he1 he2 he3
  injection he1 with he1
  injection he1 with e1 e2
  subst e1 e2;have hn:(0:Int)<((y::b).length:Nat):=by simp
  have hn2:((((y::b).length:Nat):Int) == 0)=false:=by have:((y::b).length:Int)≠0:=by simp;omega
                                                      simpa using this
  rw[Nat.add_zero]at h0;have h256:=UInt8.toNat_lt y
  have hyy:(1<y)↔(1:Int)<(y.toNat:Int):=by
   rw[UInt8.lt_iff_toNat_lt];have:(1:UInt8).toNat=1:=rfl;omega
  have hy1:(y == 1)=((y.toNat:Int) == 1):=by
   rw[Bool.eq_iff_iff,beq_iff_eq,beq_iff_eq,←UInt8.toNat_inj];have:(1:UInt8).toNat=1:=rfl;omega
  have HYY:=qh hyy;have HY1:=qh hy1;clear hyy hy1 he2 he3;generalize hlen:(y::b).length=n at*;by_cases hy:1<y
  ·have hy':(1:Int)<(y.toNat:Int):=HYY.out.1 hy;have HY:=qh hy;have HLN:=qh hlen;clear hy hlen;go_enter Tryz.func254,Tryz.ntmps254
   go_wp2_with fail
   go_ret2;exact⟨0,11,false,rfl,by omega,H2.out,Upd.refl _ _,by simp[flagR,HY.out]⟩
  ·have hy':¬(1:Int)<(y.toNat:Int):=fun h=>hy (HYY.out.2 h)
   have HY:=qh hy;have HLN:=qh hlen;clear hy hlen;go_enter Tryz.func254,Tryz.ntmps254
   go_wp2_with fail
   go_ret2;exact⟨1,0,y == 1,rfl,by first | omega | simp,by rw[HY1.out];exact H2.out.set_ 0 _,Upd.one _ _ _ _,by simp[flagR,HY.out]⟩
theorem rflag_ok{w:World}{R:Nat}{s:RS}(h:RAt w R s)(hl:s.1.length≤1000000):Calls Tryz.prog 213 #[.pointer (some ⟨R,0,none⟩)] w fun e w'=>
 e= .returned (.bool (flagR s).1)∧RAt w' R (flagR s).2∧Upd (fun k=>k=R) w w':=by
 obtain⟨b,x⟩:=s;have hR:=h.lt;have h2:=Blk.new w 4 #[.bool false];have hu:=(Upd.refl Nowhere w).alloc (.cells #[.bool false] 4);have hA:=h.upd hu id fun _ h=>absurd h id
 by_cases hx:x=0
 ·subst hx;have H2:=qh h2;have HA:=qh hA;have HU:=qh hu;have HL:=qh hl;have HR:=qh hR;clear h2 hA hu h hl hR;go_enter Tryz.func213,Tryz.ntmps213
  go_wp2_with fail
  refine(try_ok' HA.out 254 _ cf_flag1 (fun v=>#[v,.pointer (some ⟨w.heap.size,0,none⟩)]) (fun _=>rfl) (fun k=>k=w.heap.size) (by have:=HR.out;omega) (noU8_blk H2.out (by decide))
   (fun k x w2=>∃t,Blk w2 w.heap.size 4 #[.bool t]∧flagR (b,0)=(t,if x≠0 then (b,x) else (b.drop k,0)))
   (fun bb off c hv hlt=>(flag1_ok hv HL.out H2.out).mono ?_)).mono ?_
  ·rintro e w2 ⟨k,x,t,rfl,hk,hB,hU,hE⟩;exact⟨_,_,rfl,hk,hU,t,hB,hE⟩
  rintro e w3 ⟨k,x,w2,rfl,hU1,⟨t,hB,hE⟩,hU2,hRA⟩;have hB3:=hB.upd hU2 (by have:=HR.out;omega)
  have hc:=hB3.cell 0;simp only[qA,qZ]at hc;have HU1:=qh hU1;have HU2:=qh hU2;have HRA:=qh hRA;have HE:=qh hE;clear hU1 hU2 hRA hB hB3 hE;go_wp2_with fail
  go_ret;rw[HE.out];exact⟨rfl,HRA.out,(HU.out.any.trans HU1.out fun k hk e=>absurd hk (by omega)).same HU2.out⟩
 ·have HB:=fun f=>qh (try_bad hA hx f)
  have hc:(w.alloc (.cells #[.bool false] 4)).cell? ⟨w.heap.size,0,none⟩=some (.bool false):=by rw[h2.cell];rfl
  have HA:=qh hA;have HU:=qh hu;have HX:=qh hx;clear h2 hA hu h hl hR hx;go_enter Tryz.func213,Tryz.ntmps213
  go_wp2_with fail
  refine(HB _).out.mono ?_;rintro e w3 ⟨rfl,rfl⟩;go_wp2_with fail
  go_ret;have e:flagR (b,x)=(false,(b,x)):=by unfold flagR;rw[if_pos HX.out]
  rw[e];exact⟨rfl,HA.out,HU.out.any⟩
theorem end1_ok{b:Bs}{bb off c:Nat}{w:World}:Calls Tryz.prog 194 #[.slice (some ⟨bb,off,none⟩) b.length c] w fun e w'=>
 e= .returned (.tuple #[.int .i64 0,.int .i64 (endR (b,0)).2])∧w'=w:=by
 rcases b with _ | ⟨y,b⟩
 ·go_enter Tryz.func194,Tryz.ntmps194
  go_wp2_with fail
  go_ret2;exact⟨rfl,rfl⟩
 ·have hn:(0:Int)<((y::b).length:Nat):=by simp
  have HE:Hid ((endR (y::b,0)).2=13):=qh (by simp[endR])
  generalize (y::b).length=n at*;go_enter Tryz.func194,Tryz.ntmps194
  go_wp2_with fail
  go_ret2;exact⟨by rw[HE.out];rfl,rfl⟩
theorem rerr_ok{w:World}{R:Nat}{s:RS}(h:RAt w R s):Calls Tryz.prog 126 #[.pointer (some ⟨R,0,none⟩)] w fun e w'=>e= .returned (.int .i64 s.2)∧w'=w:=by
 obtain⟨bb,off,c,hb,_,_⟩:=h.ex;have hc1:=hb.cell 1;simp only[qA,qZ,qS]at hc1;clear hb h;go_enter Tryz.func126,Tryz.ntmps126
 go_wp2_with fail
 go_ret;exact⟨rfl,rfl⟩
theorem rleft_ok{w:World}{R:Nat}{s:RS}(h:RAt w R s):Calls Tryz.prog 149 #[.pointer (some ⟨R,0,none⟩)] w fun e w'=>e= .returned (.int .i64 (s.1.length:Nat))∧w'=w:=by
 obtain⟨bb,off,c,hb,_,_⟩:=h.ex;have hc0:=hb.cell 0;simp only[qA,qZ]at hc0;clear hb h;go_enter Tryz.func149,Tryz.ntmps149
 go_wp2_with fail
 go_ret;exact⟨rfl,rfl⟩
theorem rend_ok{w:World}{R:Nat}{s:RS}(h:RAt w R s):Calls Tryz.prog 129 #[.pointer (some ⟨R,0,none⟩)] w fun e w'=>
 e= .returned (.int .i64 (endR s).2)∧RAt w' R (endR s)∧Upd (fun k=>k=R) w w':=by
 obtain⟨b,x⟩:=s;have H:=qh h;clear h;by_cases hx:x=0
 ·subst hx;go_enter Tryz.func129,Tryz.ntmps129
  go_wp2_with fail
  refine(try_ok' H.out 194 _ cf_end1 (fun v=>#[v]) (fun _=>rfl) Nowhere id (fun _ h=>absurd h id)
   (fun k x w2=>k=0∧x=(endR (b,0)).2)
   (fun bb off c hv hlt=>end1_ok.mono ?_)).mono ?_
  ·rintro e w2 ⟨rfl,rfl⟩;exact⟨0,_,rfl,by omega,Upd.refl _ _,rfl,rfl⟩
  rintro e w3 ⟨k,x,w2,rfl,hU1,⟨rfl,rfl⟩,hU2,hRA⟩
  have e:(if (endR (b,0)).2≠0 then (b,(endR (b,0)).2) else (b.drop 0,0))=endR (b,0):=by
   unfold endR;by_cases hb:b=[]<;>simp[hb]
  rw[e]at hRA;have HR:=qh hRA;have HU1:=qh hU1;have HU2:=qh hU2;clear hRA hU1 hU2 e;go_wp2_with fail
  refine(rerr_ok HR.out).mono ?_;rintro e w4 ⟨rfl,rfl⟩;go_wp2_with fail
  go_ret;exact⟨rfl,HR.out,HU1.out.any.same HU2.out⟩
 ·have HX:=qh hx;clear hx;go_enter Tryz.func129,Tryz.ntmps129
  go_wp2_with fail
  refine(try_bad H.out HX.out _).mono ?_;rintro e w3 ⟨rfl,rfl⟩;go_wp2_with fail
  refine(rerr_ok H.out).mono ?_;rintro e w4 ⟨rfl,rfl⟩;go_wp2_with fail
  go_ret;have e:endR (b,x)=(b,x):=by unfold endR;rw[if_pos HX.out]
  rw[e];exact⟨rfl,H.out,Upd.refl _ _⟩
theorem OwnR.u8{B:Nat}{w:World}{g n c:Nat}{l:Bs}(h:OwnB B w (.slice (some ⟨g,0,none⟩) n c) l):U8 w g:=by
 obtain⟨cs,hc⟩:=h.is_cells (k:=g) rfl;exact⟨cs,_,hc⟩
theorem copy_bytes{w:World}{b:Bs}{v:Value}(h:BytesE w v b)(hl:b.length≤90000):
 ∃g c w',(Builtin.append_ #[143,143] 143 #[.slice (some ⟨w.heap.size,0,none⟩) 0 0,v]).run Tryz.prog (w.alloc (.cells #[] 5))= .ok (.slice (some ⟨g,0,none⟩) b.length c) w'∧
  OwnB w.heap.size w' (.slice (some ⟨g,0,none⟩) b.length c) b∧Upd Nowhere w w'∧w.heap.size≤g:=by
 by_cases hb:b=[]
 ·subst hb;obtain⟨A0,c0,rfl,_⟩:=h.val;exact⟨w.heap.size,0,_,byte_row.app0 143 _ _ _ _ _ (qlr _),OwnR.lit _ _ _ _ _ (qlr _),(Upd.refl _ w).alloc _,qlr _⟩
 ·obtain⟨A3,c3,w3,hrun,ho3,hu3⟩:=byte_row.appU (OwnR.lit 5 byteC 1 w.heap.size w (qlr _)) (by simp) 143 (h.alloc _) (by simp;omega)
  simp only[List.length_nil,Nat.zero_add,List.nil_append]at hrun ho3;obtain⟨g,rfl,hg⟩:=ho3.addr hb;exact⟨g,c3,w3,hrun,ho3,((Upd.refl _ w).alloc _).trans hu3 fun k hk e=>by simp[Value.ownBlock]at e;omega,hg⟩
theorem read_ok{w:World}{b:Bs}{v:Value}(h:BytesE w v b)(hl:b.length≤90000):Calls Tryz.prog 124 #[v] w fun e w'=>
 ∃R,e= .returned (.pointer (some ⟨R,0,none⟩))∧w.heap.size≤R∧RAt w' R (b,0)∧Upd Nowhere w w':=by
 obtain⟨A0,c0,rfl,_⟩:=h.val;obtain⟨g,c3,w3,hrun,ho3,hu3,hg⟩:=copy_bytes h hl;have HRUN:=qh hrun;have HO3:=qh ho3;have HU3:=qh hu3;clear hrun ho3 hu3 h;go_enter Tryz.func124,Tryz.ntmps124
 go_wp2_with (at_builtin;refine wpList_append_run rfl _ _ _ rfl rfl rfl HRUN.out ?_)
 go_ret;exact⟨w3.heap.size,rfl,HU3.out.size,⟨g,0,c3,Blk.new _ _ _,HO3.out.els.alloc _,HO3.out.u8.upd ((Upd.refl Nowhere w3).alloc _) id⟩,HU3.out.alloc _⟩
theorem seal_ok{w:World}{b:Bs}{v:Value}(h:BytesE w v b)(hl:b.length≤4096)(hW:HalfW w):Calls Tryz.prog 170 #[v] w fun e w'=>
 ∃A c,e= .returned (.tuple #[.slice A (sealB sumB b).length c,.int .i64 0])∧OwnB w.heap.size w' (.slice A (sealB sumB b).length c) (sealB sumB b)∧Upd Nowhere w w':=by
 obtain⟨A0,c0,rfl,_⟩:=h.val;have hli:¬(4096:Int)<(b.length:Nat):=by omega
 have hB:=Blk.new w 193 #[.slice none 0 0];have hu:=(Upd.refl Nowhere w).alloc (.cells #[.slice none 0 0] 193);have hWA:WAt w.heap.size (w.alloc (.cells #[.slice none 0 0] 193)) w.heap.size []:=⟨⟨none,0,hB,OwnR.nil _ _ _ _ _⟩,qlr _⟩;have hcv:=conv_back (h.alloc (.cells #[.slice none 0 0] 193));have hh:=hW.upd hu id;have hlt:=hW.lt;have HCV:=qh hcv;have HWA:=qh hWA;have HU:=qh hu;have HH:=qh hh;have HL:=qh hl;have HLT:=qh hlt;clear h hB hu hWA hcv hh hl hW hlt;go_enter Tryz.func170,Tryz.ntmps170
 go_wp2_with (refine wpList_conv_run rfl 143 9 _ rfl rfl HCV.out ?_)
 refine(wtext_ok HWA.out b (by have:=HL.out;omega) (by simp)).mono ?_
 rintro e w2 ⟨rfl,hW2,hU2⟩;rw[List.nil_append]at hW2;have hH2:=HH.out.upd hU2 (by have:=HLT.out;omega)
 obtain⟨A,c,hb,ho⟩:=hW2.ex;have hc:=hb.cell 0;simp only[qA,qZ]at hc
 have hlen:(textB b).length≤5000:=by
  have:=shortB_len_le (n:=b.length) (k:=9) (by have:=HL.out;omega)
  have:=HL.out;simp only[textB,qla];omega
 have HS:=qh (sealSum_ok (w:=w2.drew) ho.els (by omega) hH2)
 have HB2:=qh hb;have HO2:=qh ho;have HU2:=qh hU2;have HLE:=qh hlen;clear hW2 hH2 hU2 hb ho hlen;go_wp2_with fail
 go_region_held3 (fun w'=>w'.cell? ⟨w.heap.size,0,none⟩=some (.slice A (textB b).length c)) (first | go_keep | exact hy | exact hz)
  (first
    | (refine step_append_run rfl _ _ _ rfl rfl rfl HR.out ?_)
    | (go_at_call 222
       refine HS.out.mono ?_;rintro e w3 ⟨A2,c2,rfl,hO3,hU3⟩;have hy:w3.cell? ⟨w.heap.size,0,none⟩=some (.slice A (textB b).length c):=(hU3.cell (p:=⟨w.heap.size,0,none⟩) HB2.out.lt id).trans hc;obtain⟨A4,c4,w4,hr,hO4,hU4⟩:=byte_row.appU (HO2.out.drew.upd hU3 fun _ _=>id) (by have h1:w2.heap.size≤w3.heap.size:=hU3.size;have:=HB2.out.lt;omega) 143 (v2:= .slice A2 4 c2) (K:=sumB (textB b)) hO3.els (by have:=HLE.out;rw[sumB_len];omega)
       rw[sumB_len]at hr hO4;have hz:w4.cell? ⟨w.heap.size,0,none⟩=some (.slice A (textB b).length c):=(hU4.cell (p:=⟨w.heap.size,0,none⟩) (Nat.lt_of_lt_of_le HB2.out.lt hU3.size) (own_blk_ne HO2.out.row HB2.out (by decide))).trans hy
       have HR:=qh hr;have HO4:=qh hO4;have HU3:=qh hU3;have HU4:=qh hU4;clear hr hO3 hO4 hU3 hU4))
 all_goals
  go_wp2_with fail
  go_ret2;have e:(sealB sumB b).length=(textB b).length+4:=by unfold sealB;rw[qla,sumB_len]
  rw[e];refine⟨A4,c4,rfl,HO4.out,?_⟩;have h3:Upd Nowhere w2 w3:=⟨HU3.out.os,HU3.out.tape,HU3.out.output,HU3.out.size,HU3.out.block⟩;have h1:=(HU.out.trans HU2.out (F:=Nowhere) fun k hk e=>absurd e (by omega)).same h3
  exact h1.trans HU4.out fun k hk e=>absurd (HO2.out.new k e) (by omega)
theorem textR_left(most:Nat)(b:Bs):(textR most (b,0)).2.2=0→(textR most (b,0)).2.1.length≤b.length∧(textR most (b,0)).2.1=b.drop (b.length - (textR most (b,0)).2.1.length):=by
 unfold textR;simp only[ne_eq,not_true_eq_false,if_false];have hle:=numberB_ok (b:=b) (most:=most) (n:=(numberB b most).1) (k:=(numberB b most).2.1) (e:=(numberB b most).2.2) rfl;generalize numberB b most=T at hle;obtain⟨n,k,e⟩:=T;obtain⟨h1,h2,h3⟩:=hle;simp only at h1 h2 h3;by_cases he:e=0
 ·subst he;simp only[not_true_eq_false,if_false];by_cases hs:b.length - k<n
  ·simp[hs]
  ·simp only[if_neg hs,qld];intro _;refine⟨by omega,?_⟩
   congr 1
   omega
 ·simp[he]
theorem open_ok{w:World}{b:Bs}{v:Value}(h:BytesE w v b)(hl:b.length≤90000)(hW:HalfW w):Calls Tryz.prog 214 #[v] w fun e w'=>
 ∃v2,e= .returned (.tuple #[v2,.int .i64 ((openB sumB b).2.1:Nat),.int .i64 (openB sumB b).2.2])∧BytesE w' v2 (openB sumB b).1∧Upd Nowhere w w':=by
 obtain⟨A0,c0,rfl,_⟩:=h.val;have H:=qh h;have HW:=qh hW;have HLT:=qh hW.lt;have HL:=qh hl;clear h hl hW;go_enter Tryz.func214,Tryz.ntmps214
 go_wp2_with fail
 refine(read_ok H.out HL.out).mono ?_;rintro e w1 ⟨R,rfl,hR,hRA,hU1⟩;have HRA:=qh hRA;have HU1:=qh hU1;have HE1:=qh (H.out.upd hU1 fun _ _=>id)
 have hRl:=hRA.lt;clear hRA hU1;go_wp2_with fail
 refine(rtext_ok HRA.out (by have:=HL.out;simp only;omega) 4096 (by omega)).mono ?_
 rintro e w2 ⟨rfl,hRA2,hU2⟩;have hu2:Upd (fun k=>w.heap.size≤k) w w2:=(HU1.out.any).trans hU2 fun k _ e=>by omega
 have hE2:=H.out.newer hu2 fun k hk=>by omega
 have hW2:=HW.out.upd hu2 (by have:=HLT.out;omega)
 have hOE:openB sumB b=(match textR 4096 (b,0) with
  | (body,(l,e))=>if e≠0 then ([],0,e) else if l.length<4 then ([],0,10) else if sumB (b.take (b.length - l.length))≠l.take 4 then ([],0,30) else (body,b.length - l.length+4,0)):=rfl
 have hTL:=textR_left 4096 b;generalize textR 4096 (b,0)=T at hRA2 hOE hTL;obtain⟨body,l,x⟩:=T;simp only at hRA2 hOE hTL;obtain⟨bb,off,c,hB,hj1,hj2⟩:=hRA2.ex;clear hj1 hj2;have hc0:=hB.cell 0;have hc1:=hB.cell 1;simp only[qA,qZ,qS]at hc0 hc1;have HRA2:=qh hRA2;have HU2:=qh hu2;have HE2:=qh hE2;have HW2:=qh hW2;have HOE:=qh hOE;have HRL:=qh hRl;clear hRA2 hU2 hu2 hE2 hW2 hOE hB hRl;by_cases hx:x=0
 ·subst hx;obtain⟨hll,hdl⟩:=hTL rfl;have HLL:=qh hll;have HDL:=qh hdl;clear hTL hll hdl;go_wp2_with fail
  refine(rleft_ok HRA2.out).mono ?_;rintro e w3 ⟨rfl,rfl⟩;by_cases h4:l.length<4
  ·have h4':((l.length:Nat):Int)<4:=by omega
   have H4:=qh h4;have hb1:((l.length:Nat):Int)≤(b.length:Nat):=by have:=HLL.out;omega
   have hb2:((b.length:Nat):Int)≤90000:=by have:=HL.out;omega
   clear h4;go_wp2_with fail
   refine(rleft_ok HRA2.out).mono ?_;rintro e w3 ⟨rfl,rfl⟩;go_wp2_with fail
   go_ret3
   refine⟨.slice none 0 0,by rw[HOE.out];simp[H4.out],?_,HU2.out.mono fun k hk h=>absurd h (by omega)⟩
   rw[HOE.out];simp only[ne_eq,not_true_eq_false,if_false,H4.out,if_true];exact⟨_,_,rfl,qlr _,rfl,fun h=>absurd h (by simp)⟩
  ·have h4':¬((l.length:Nat):Int)<4:=by omega
   have H4:=qh h4;have hb1:((l.length:Nat):Int)≤(b.length:Nat):=by have:=HLL.out;omega
   have hb2:((b.length:Nat):Int)≤90000:=by have:=HL.out;omega
   clear h4;go_wp2_with fail
   refine(rleft_ok HRA2.out).mono ?_;rintro e w3 ⟨rfl,rfl⟩;go_wp2_with fail
   obtain⟨m,hm⟩:∃m,b.length=m+l.length:=⟨b.length - l.length,by have:=HLL.out;omega⟩
   have em:((b.length:Nat):Int) - ((l.length:Nat):Int)=(m:Int):=by omega
   obtain⟨ab,ao,ac,he,hab,hcl⟩:=Reads.addr HE2.out (by have:=H4.out;omega)
   clear hcl
   cases he;have hbc:b.length≤c0:=by assumption
   have hmc:m+4≤c0:=by have:=H4.out;omega
   have hmi:(m:Int)+4≤90000:=by have:=H4.out;have:=HL.out;omega
   have hml:m+4≤b.length:=by have:=H4.out;omega
   have HM:=qh hm;have HP1:=qh (Els.part byteC_len HE2.out 0 m (by omega) (by omega:m≤c0) hab)
   obtain⟨m4,hm4⟩:∃m4,m4=m+4:=⟨_,rfl⟩;obtain⟨S2,hS2⟩:∃S2,(b.drop m).take 4=S2:=⟨_,rfl⟩;obtain⟨S1,hS1⟩:∃S1,sumB (b.take m)=S1:=⟨_,rfl⟩;have hP2:=textB_pieces HE2.out hab m 4 hml;rw[hS2]at hP2;have HP2:=qh hP2;have HS1:=qh hS1;have HS2:=qh hS2;have hv1:(convert 143 9 (.slice (some ⟨ab,ao+m,none⟩) (m4 - m) (c0 - m))).run Tryz.prog w3.drew= .ok (strV S2) w3.drew:=by rw[show m4 - m=4 by omega];exact conv_back HP2.out
   have HV1:=qh hv1
   have hP1:BytesE w3.drew (.slice (some ⟨ab,ao,none⟩) m c0) (b.take m):=by
    have:=HP1.out;rw[Nat.zero_mul,Nat.add_zero,List.drop_zero]at this;exact this
   have hlm:(b.take m).length=m:=by simp;omega
   have hs0:=(sealSum_ok hP1 (by have:=HL.out;omega) (HW2.out.upd ((Upd.refl Nowhere w3).drew) id))
   rw[hS1]at hs0;have HS:=qh hs0;have HC0:=qh hc0
   have HVF:Hid (∀W,Upd Nowhere w3.drew W→(convert 143 9 (.slice (some ⟨ab,ao+m,none⟩) (m4 - m) (c0 - m))).run Tryz.prog W= .ok (strV S2) W):=
    qh fun W hU=>by rw[show m4 - m=4 by omega];exact conv_back (HP2.out.drew.upd hU fun _ _=>id)
   rw[em];have hA:(m:Int)≤(c0:Int):=by omega
   have hB:(m4:Int)≤(c0:Int):=by omega
   have hA':m≤c0:=by omega
   have hB':m4≤c0:=by omega
   have hC:(m:Int)≤(m4:Int):=by omega
   have hC':m≤m4:=by omega
   have hne:¬c0=m:=by omega
   have hw4:IntKind.i64.wrap ((m:Int)+4)=(m4:Int):=by rw[IntWalk.i64_in _ (by omega)];omega
   have HM4:=qh hm4;clear hm4 hmc hmi hml;clear em hm hP1 hP2 hS1 hS2 hs0 hlm hbc hb1 hb2 h4'
   go_region_with
    (first
      | (skip
         refine HS.out.mono ?_;rintro e w4 ⟨A2,c2,rfl,hO3,hU3⟩;have hy:w4.cell? ⟨R,0,none⟩=some (.slice (some ⟨bb,off,none⟩) l.length c):=(hU3.cell (p:=⟨R,0,none⟩) HRA2.out.lt id).trans hc0;have hv2:(convert 143 9 (.slice A2 4 c2)).run Tryz.prog w4= .ok (strV S1) w4:=conv_back (by have:=hO3.els;exact this)
         have hv3:=HVF.out w4 hU3;have HU3:=qh hU3;clear hO3 hU3))
   all_goals
    have hu4:=(HU2.out.same ((Upd.refl (fun k=>w.heap.size≤k) w3).drew)).same (HU3.out.any:Upd (fun k=>w.heap.size≤k) w3.drew w4)
    have HU4:=qh hu4;have e1:b.length - l.length=m:=by have:=HM.out;omega
    have e2:l.take 4=S2:=by rw[HDL.out,e1];exact HS2.out
    have E1:=qh e1;have E2:=qh e2;clear hu4 e1 e2 hv1 hv2 hv3 hy;by_cases hss:(S1 == S2)=true
    ·obtain rfl:S1=S2:=by simpa using hss
     clear hss;have hself:(S1 == S1)=true:=by simp
     rw[hself];clear hself;obtain⟨c5,w5,hr5,hE5,hU5,_⟩:=conv_bytes w4 body;have HR5:=qh hr5;have HE5:=qh hE5;have HU5:=qh hU5;clear hr5 hE5 hU5;go_wp2_with (refine wpList_conv_run rfl 9 143 _ rfl rfl HR5.out ?_)
     go_ret3
     have e:openB sumB b=(body,m+4,0):=by
      rw[HOE.out];simp only[ne_eq,not_true_eq_false,if_false,H4.out,E1.out,E2.out,HS1.out]
     rw[e];exact⟨_,by rw[HM4.out];rfl,HE5.out,(HU4.out.mono fun k hk h=>absurd h (by omega)).same HU5.out⟩
    ·have hss':(S1 == S2)=false:=by simpa using hss
     have e3:S1≠S2:=by simpa using hss'
     have HE3:=qh e3;rw[hss'];clear hss hss' e3;go_wp2_with fail
     go_ret3
     have e3:=HE3.out
     have e:openB sumB b=([],0,30):=by
      rw[HOE.out];simp only[ne_eq,not_true_eq_false,if_false,H4.out,E1.out,E2.out,HS1.out];rw[if_pos e3]
     rw[e];exact⟨.slice none 0 0,rfl,⟨_,_,rfl,qlr _,rfl,fun h=>absurd h (by simp)⟩,HU4.out.mono fun k hk h=>absurd h (by omega)⟩
 ·have hx':(x != 0)=true:=by simpa using hx
  have HX:=qh hx;clear hx hTL;go_wp2_with fail
  go_quiet (fail)
  go_wp2_with fail
  go_ret3
  refine⟨.slice none 0 0,by rw[HOE.out];simp[HX.out],?_,(HU2.out.mono fun k hk h=>absurd h (by omega)).drewN _⟩
  rw[HOE.out];simp only[ne_eq,HX.out,not_false_eq_true,if_true];exact⟨_,_,rfl,qlr _,rfl,fun h=>absurd h (by simp)⟩
end Go.Proofs.YtdfccegeihfdpaaGreatDoor
