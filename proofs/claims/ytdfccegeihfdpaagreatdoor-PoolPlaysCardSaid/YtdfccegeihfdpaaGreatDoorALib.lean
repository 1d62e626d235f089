/-
  Small words on memory: which blocks a call may have changed ('Upd'), a block that is known whole ('Blk'), a slice that reads as a list ('Reads'), bytes as values.
-/
import Derived.WalkSpells
import Derived.WalkLawsBesides
import Derived.BigQuiet
import Derived.Deep.RegionHeld3
import Derived.StillTailTactics
import Derived.Deep.AppendLies
import Derived.Deep.DeepCutAuto
import Derived.Lib.Hide
import Derived.Conc.LoneCalls
namespace Go.Proofs.YtdfccegeihfdpaaGreatDoor
theorem qZ {α:Type _} {a:α} {l:List α}:(a::l)[0]?=some a:=rfl
theorem qS {α:Type _} {a:α} {l:List α} {i:Nat}:(a::l)[i+1]?=l[i]?:=rfl
theorem qA {α:Type _} {xs:List α} {i:Nat}:xs.toArray[i]?=xs[i]?:=List.getElem?_toArray
theorem qsA {α:Type _} {l:List α} {i:Nat} {a:α}:l.toArray.setIfInBounds i a=(l.set i a).toArray:=List.setIfInBounds_toArray ..
theorem qsZ {α:Type _} {a b:α} {l:List α}:(a::l).set 0 b=b::l:=rfl
theorem qsS {α:Type _} {a b:α} {l:List α} {i:Nat}:(a::l).set (i+1) b=a::l.set i b:=rfl
theorem qla {α:Type _} {as bs:List α}:(as++bs).length=as.length+bs.length:=List.length_append
theorem qaa {α:Type _} (a b c:List α):a++b++c=a++(b++c):=List.append_assoc a b c
theorem qeg {α:Type _} {l:List α} {i:Nat} (h:i<l.length):l[i]?=some l[i]:=List.getElem?_eq_getElem h
theorem qmg {α:Type _} {l:List α} {i:Nat} {a:α} (e:l[i]?=some a):a∈l:=List.mem_of_getElem? e
theorem qei {α:Type _} {i:Nat} {a:α} {l:List α}:l[i]?=some a↔∃h:i<l.length,l[i]=a:=List.getElem?_eq_some_iff
theorem qlr (n:Nat):n≤n:=Nat.le_refl n
theorem qls {α:Type _} {a:α}:[a].length=1:=rfl
theorem qlt {α:Type _} {i:Nat} {l:List α}:(l.take i).length=min i l.length:=List.length_take
theorem qlm {α:Type _} {β:Type _} {as:List α} (f:α→β):(as.map f).length=as.length:=List.length_map f
theorem qld {α:Type _} {i:Nat} {l:List α}:(l.drop i).length=l.length-i:=List.length_drop
theorem qma {α:Type _} {a:α} {s t:List α}:a∈s++t↔a∈s∨a∈t:=List.mem_append
theorem qmc {α:Type _} {b:α} {l:List α} {a:α}:a∈b::l↔a=b∨a∈l:=List.mem_cons
theorem qar {α:Type _} {l₁ l₂:List α} {i:Nat} (h:l₁.length≤i):(l₁++l₂)[i]?=l₂[i-l₁.length]?:=List.getElem?_append_right h
theorem qal {α:Type _} {l₁ l₂:List α} {i:Nat} (h:i<l₁.length):(l₁++l₂)[i]?=l₁[i]?:=List.getElem?_append_left h
theorem qgm {α:Type _} {β:Type _} {f:α→β} {l:List α} {i:Nat}:(l.map f)[i]?=(l[i]?).map f:=List.getElem?_map
theorem qh {p:Prop} (h:p):RowKit.Hid p:=Lib.hid h
open Go Go.RowKit
structure Upd(F:Nat→Prop)(w w':World):Prop where
 os:w'.os=w.os
 tape:w'.tape=w.tape
 output:w'.output=w.output
 size:w.heap.size≤w'.heap.size
 block:∀k,k<w.heap.size→¬F k→w'.heap[k]? =w.heap[k]?
def Nowhere(_:Nat):Prop:=False
section
variable {F G H:Nat→Prop} {a w w' b c:World}
theorem Upd.refl(F:Nat→Prop)(w:World):Upd F w w:=⟨rfl,rfl,rfl,qlr _,fun _ _ _=>rfl⟩
theorem Upd.mono(h:Upd F w w')(hF:∀k,k<w.heap.size→F k→G k):Upd G w w':=
 ⟨h.os,h.tape,h.output,h.size,fun k hk hn=>h.block k hk fun hf=>hn (hF k hk hf)⟩
theorem Upd.trans(h:Upd F a b)(h':Upd G b c)(hG:∀k,k<a.heap.size→G k→F k):Upd F a c:=
 ⟨h'.os.trans h.os,h'.tape.trans h.tape,h'.output.trans h.output,Nat.le_trans h.size h'.size,
  fun k hk hn=>(h'.block k (Nat.lt_of_lt_of_le hk h.size) fun hg=>hn (hG k hk hg)).trans (h.block k hk hn)⟩
theorem Upd.drew(h:Upd F a w):Upd F a w.drew:=⟨h.os,h.tape,h.output,h.size,h.block⟩
theorem Upd.drewN(h:Upd F a w)(n:Nat):Upd F a (w.drewN n):=⟨h.os,h.tape,h.output,h.size,h.block⟩
theorem Upd.alloc(h:Upd F a w)(o:Obj):Upd F a (w.alloc o):=
 ⟨h.os,h.tape,h.output,Nat.le_trans h.size (by simp),fun k hk hn=>(Below.heap_alloc w o k (Nat.lt_of_lt_of_le hk h.size)).trans (h.block k hk hn)⟩
theorem Upd.setCell(h:Upd F a w){p:Addr}(hp:p.block<a.heap.size→F p.block)(u:Value):Upd F a (w.setCell p u):=
 ⟨h.os,h.tape,h.output,by simpa [World.setCell] using h.size,
  fun k hk hn=>(Below.heap_setCell w p u k (by rintro rfl;exact hn (hp hk))).trans (h.block k hk hn)⟩
theorem Upd.grown{row:Option Nat}(h:Upd F a w)(hg:w.grownBy w' row)(hr:∀k,row=some k→k<a.heap.size→F k):Upd F a w':=
 ⟨hg.os.trans h.os,hg.tape.trans h.tape,hg.output.trans h.output,Nat.le_trans h.size hg.size,
  fun k hk hn=>(hg.block k (Nat.lt_of_lt_of_le hk h.size) (fun e=>hn (hr k e.symm hk))).trans (h.block k hk hn)⟩
theorem Upd.toBelow(h:Upd F w w')(hF:∀k,k<w.heap.size→¬F k):Below w.heap.size w w':=
 ⟨h.os,h.tape,h.output,h.size,fun k hk=>h.block k hk (hF k hk)⟩
theorem Upd.cell(h:Upd F w w'){p:Addr}(hp:p.block<w.heap.size)(hn:¬F p.block):w'.cell? p=w.cell? p:=World.cell?_of_block (h.block _ hp hn)
end
def Blk(w:World)(g:Nat)(t:TypeId)(cs:Array Value):Prop:=w.heap[g]? =some (.cells cs t (0,0))
theorem lt_of_heap{w:World}{g:Nat}{o:Obj}(h:w.heap[g]? =some o):g<w.heap.size:=(Array.getElem?_eq_some_iff.1 h).1
section
variable {F:Nat→Prop} {w w':World} {g:Nat} {t:TypeId} {cs:Array Value}
theorem Blk.lt(h:Blk w g t cs):g<w.heap.size:=lt_of_heap h
theorem Blk.cell(h:Blk w g t cs)(i:Nat):w.cell? ⟨g,i,none⟩=cs[i]? :=by unfold Blk at h;simp[World.cell?,h]
theorem Blk.frozen(h:Blk w g t cs)(i:Nat):w.frozen? ⟨g,i,none⟩=false:=by
 unfold Blk at h;simp[World.frozen?,h]
theorem Blk.new(w:World)(t:TypeId)(cs:Array Value):Blk (w.alloc (.cells cs t)) w.heap.size t cs:=heap_alloc_new w _
theorem Blk.new'{g:Nat}(w:World)(t:TypeId)(cs:Array Value)(hg:g=w.heap.size):Blk (w.alloc (.cells cs t)) g t cs:=by rw[hg];exact Blk.new w t cs
theorem Blk.drew(h:Blk w g t cs):Blk w.drew g t cs:=h
theorem Blk.alloc(h:Blk w g t cs)(o:Obj):Blk (w.alloc o) g t cs:=(Below.heap_alloc w o g h.lt).trans h
theorem Blk.set_(h:Blk w g t cs)(i:Nat)(u:Value):Blk (w.setCell ⟨g,i,none⟩ u) g t (cs.setIfInBounds i u):=by
 unfold Blk at h ⊢;simp[World.setCell,Array.getElem?_modify,h]
theorem Blk.far(h:Blk w g t cs){p:Addr}(hp:g≠p.block)(u:Value):Blk (w.setCell p u) g t cs:=(Below.heap_setCell w p u g hp).trans h
theorem Blk.upd(h:Blk w g t cs)(hu:Upd F w w')(hg:¬F g):Blk w' g t cs:=(hu.block g h.lt hg).trans h
theorem Blk.ne_{g':Nat}{t':TypeId}{cs':Array Value}(h:Blk w g t cs)(h':Blk w g' t' cs')(hne:t≠t'):g≠g':=by
 rintro rfl;unfold Blk at h h';rw[h]at h';injection h' with h'
 injection h' with _ ht
 exact hne ht
end
section
variable {F:Nat→Prop} {w w':World} {base n size:Nat} {e:TypeId} {v:Value} {xs:List Value}
theorem own_upd(h:w.ownsRow base e size v n xs)(hu:Upd F w w')(hn:∀k,v.ownBlock=some k→¬F k):w'.ownsRow base e size v n xs:=by
 obtain⟨h1,h2⟩:=h;refine⟨h1,?_⟩
 rcases h2 with h2 | ⟨g,cap,cur,rfl,hb,hh,h3⟩
 ·exact .inl h2
 ·exact .inr ⟨g,cap,cur,rfl,hb,(hu.block g (lt_of_heap hh) (hn g rfl)).trans hh,h3⟩
theorem own_lt(h:w.ownsRow base e size v n xs){k:Nat}(hk:v.ownBlock=some k):k<w.heap.size:=(h.lt k hk).2
theorem own_blk_ne{g:Nat}{t:TypeId}{cs:Array Value}(h:w.ownsRow base e size v n xs)(hg:Blk w g t cs)(hne:e≠t):v.ownBlock≠some g:=by
 rcases h.2 with⟨rfl,_⟩ | ⟨g',cap,cur,rfl,_,hh,_⟩
 ·simp[Value.ownBlock]
 ·intro he;have:g'=g:=by simpa [Value.ownBlock] using he
  subst this;exact Blk.ne_ (t:=e) hh hg hne rfl
end
theorem block_add(a:Addr)(n:Nat):(a.add n).block=a.block:=by unfold Addr.add;split<;>rfl
def Reads(w:World)(size:Nat)(v:Value)(n:Nat)(xs:List Value):Prop:=
 ∃(A:Option Addr) (c:Nat),v= .slice A n c∧n≤c∧xs.length=n * size∧(0<n→∃ad,A=some ad∧ad.block<w.heap.size∧ad.spot=none∧∀j u,xs[j]? =some u→w.cell? (ad.add j)=some u)
section
variable {F:Nat→Prop} {w w':World} {n size:Nat} {v:Value} {xs:List Value}
theorem Reads.upd(h:Reads w size v n xs)(hu:Upd F w w')(hn:∀k,v.ownBlock=some k→¬F k):Reads w' size v n xs:=by
 obtain⟨A,c,rfl,hc,hl,h⟩:=h;refine⟨A,c,rfl,hc,hl,fun h0=> ?_⟩
 obtain⟨ad,rfl,hb,hs,hcell⟩:=h h0;refine⟨ad,rfl,Nat.lt_of_lt_of_le hb hu.size,hs,fun j u hj=> ?_⟩
 rw[hu.cell (by rw[block_add];exact hb) (by rw[block_add];exact hn _ rfl)]
 exact hcell j u hj
theorem Reads.alloc(h:Reads w size v n xs)(o:Obj):Reads (w.alloc o) size v n xs:=h.upd ((Upd.refl Nowhere w).alloc o) fun _ _=>id
theorem Reads.len(h:Reads w size v n xs):xs.length=n * size:=by obtain⟨_,_,_,_,h,_⟩:=h;exact h
theorem Reads.val(h:Reads w size v n xs):∃A c,v= .slice A n c∧n≤c:=by obtain⟨A,c,h,hc,_⟩:=h;exact⟨A,c,h,hc⟩
theorem Reads.drew(h:Reads w size v n xs):Reads w.drew size v n xs:=h
theorem Reads.of_own{base:Nat}{e:TypeId}(h:w.ownsRow base e size v n xs):Reads w size v n xs:=by
 have hc:=@World.ownsRow.cells w base e size v n xs h;obtain⟨h1,⟨rfl,rfl⟩ | ⟨g,cap,cur,rfl,hb,hh,hn,h3⟩⟩:=h
 ·exact⟨none,0,rfl,qlr _,h1,fun h=>absurd h (by omega)⟩
 ·exact⟨some ⟨g,0,none⟩,cap,rfl,hn,h1,fun _=>⟨_,rfl,lt_of_heap hh,rfl,hc rfl⟩⟩
end
section
variable {P:Program} {ops:Array Oper} {Q:Exit→Act→World→Prop} {a:Act} {w:World} {rest:List Oper} {o:Oper}
theorem wpList_append_run(hg:o.guard=none)(s x:Operand)(t:TypeId)(ho:o.op= .call { callee:= .builtin .append,args:=#[s,x],argTypes:=#[t,t] }){v1 v2 v':Value}{w':World}
 (hs:a.eval s=v1) (hx:a.eval x=v2) (hrun:(Builtin.append_ #[t,t] o.type #[v1,v2]).run P w= .ok v' w') (h:wpList P ops Q rest (a.put o.dst v') w'):wpList P ops Q (o::rest) a w:=by
 refine wpList_plain hg fun K hK=> ?_
 unfold Oper.wp execOp;simp only[ho,resolve,invoke,builtin,Sem.run_bind,Sem.run_pure,Result.andThen_ok,List.map_toArray,List.map_cons,List.map_nil,hs,hx,hrun];exact hK _ _ h
theorem step_append_run{K:Act→World→Prop}{E:Prop}(hg:o.guard=none)(s x:Operand)(t:TypeId)(ho:o.op= .call { callee:= .builtin .append,args:=#[s,x],argTypes:=#[t,t] }){v1 v2 v':Value}{w':World}
 (hs:a.eval s=v1) (hx:a.eval x=v2) (hrun:(Builtin.append_ #[t,t] o.type #[v1,v2]).run P w= .ok v' w') (h:K (a.put o.dst v') w'):
 if Region.wanted o (yielded ops a.tmps)=true then Oper.wp P o a w K Q else E:=by
 have hw:Region.wanted o (yielded ops a.tmps)=true:=by simp[Region.wanted,hg]
 rw[if_pos hw];unfold Oper.wp execOp;simp only[ho,resolve,invoke,builtin,Sem.run_bind,Sem.run_pure,Result.andThen_ok,List.map_toArray,List.map_cons,List.map_nil,hs,hx,hrun];exact h
theorem wpList_value(hg:o.guard=none){v:Value}{w':World}(hrun:(execOp a.eval o).run P w= .ok (.value v) w')(h:wpList P ops Q rest (a.put o.dst v) w'):wpList P ops Q (o::rest) a w:=by
 refine wpList_plain hg fun K hK=> ?_
 unfold Oper.wp;rw[hrun];exact hK _ _ h
end
theorem wp_region_tail{P:Program}{id:Nat}{Q:Exit→Act→World→Prop}{a:Act}{w:World}{l:List Oper}(n:Nat)(hm:P.follows .mixedOrders=true)(hB:Region.lexTailB .any l.toArray n=true)
 (h:wpStill P l.toArray w.drew (fun a'=>wpList P l.toArray Q (l.drop n) a' w.drew) (l.take n) a):(Code.region id l.toArray true).wp P Q a w:=wp_region_still_tail n hm hB h
def byteV(b:UInt8):Value:= .int .u8 b.toNat
def bytesV(l:List UInt8):List Value:=l.map byteV
theorem bytesV_length(l:List UInt8):(bytesV l).length=l.length:=by simp[bytesV]
theorem bytesV_get(l:List UInt8)(i:Nat):(bytesV l)[i]? =(l[i]?).map byteV:=by simp[bytesV]
theorem bytesV_one(l:List UInt8):∀u∈bytesV l,u.oneCell'=true:=by
 intro u hu;simp only[bytesV,List.mem_map]at hu;obtain⟨b,_,rfl⟩:=hu;rfl
end Go.Proofs.YtdfccegeihfdpaaGreatDoor
