/-
  A region of pure operations (moves, picks, fields' addresses, loads, lengths, comparisons), in the order of the text, with guards, reckoned by the kernel: what the comparisons answer is told ahead. The tables for regions of pure operations over records.
-/
import Derived.Test.YtljmmkjdlcfkpaaGreatDoorQLib
import Derived.Test.YtljmmkjdlcfkpaaGreatDoorRows
namespace Go.Proofs.YtljmmkjdlcfkpaaGreatDoor
open Go Go.RowKit
inductive SV where
 | v (x:Value)
 | p (k off:Nat)
 | b (x:Bool)
 | u
def SV.den(β:Nat→Nat):SV→Value
 | .v x=>x
 | .p k off=> .pointer (some ⟨β k,off,none⟩)
 | .b x=> .bool x
 | .u=>undef
structure PTb where
 fo:List (Nat×Nat×Nat)
 ld:List Nat
 l2:List Nat
 sl:List Nat
 M:List (List SV)
def memB(n:Nat):List Nat→Bool
 | []=>false
 | m::l=>Nat.beq n m || memB n l
def offB(t i:Nat):List (Nat×Nat×Nat)→Option Nat
 | []=>none
 | (t',i',d)::l=>bif Nat.beq t t' && Nat.beq i i' then some d else offB t i l
def nthB{α:Type}:List α→Nat→Option α
 | [],_=>none
 | a::_,0=>some a
 | _::l,n+1=>nthB l n
def setB{α:Type}:List α→Nat→α→List α
 | [],_,_=>[]
 | _::l,0,b=>b::l
 | a::l,n+1,b=>a::setB l n b
theorem nthB_eq{α:Type}:∀(l:List α) (n:Nat),nthB l n=l[n]? :=by
 intro l
 induction l with
 | nil=>intro n;rfl
 | cons a l ih=>
   intro n
   cases n with
   | zero=>rfl
   | succ n=>simp[nthB,ih]
theorem setB_eq{α:Type}:∀(l:List α) (n:Nat) (b:α),setB l n b=l.set n b:=by
 intro l
 induction l with
 | nil=>intro n b;rfl
 | cons a l ih=>
   intro n b
   cases n with
   | zero=>rfl
   | succ n=>simp[setB,ih]
def PTb.cell(T:PTb)(k off:Nat):Option SV:=(nthB T.M k).bind fun l=>nthB l off
def opnd(s:List SV):Operand→Option SV
 | .tmp t=>nthB s t
 | .const (.bool b)=>some (.b b)
 | .const v=>some (.v v)
 | _=>none
structure PCond where
 op:BinOp
 t:TypeId
 x:Operand
 y:Operand
 a:SV
 b:SV
 z:SV
def PCond.ok(P:Program)(β:Nat→Nat)(w:World)(c:PCond):Prop:=(do eqGuard c.op c.t c.x c.y (c.a.den β) (c.b.den β);binOp c.op c.t (c.a.den β) (c.b.den β):Sem Value).run P w= .ok (c.z.den β) w
def SV.plain:SV→Option Value
 | .v x=>some x
 | .b x=>some (.bool x)
 | _=>none
def stepV(T:PTb)(s:List SV)(orc:List SV):Op→Option (SV×List SV×List PCond)
 | .move x=>(opnd s x).map fun v=>(v,orc,[])
 | .assign x=>(opnd s x).map fun v=>(v,orc,[])
 | .pick c x y=>match opnd s c with
   | some (.b true)=>(opnd s x).map fun v=>(v,orc,[])
   | some (.b false)=>(opnd s y).map fun v=>(v,orc,[])
   | _=>none
 | .fieldAddr t x i=>match opnd s x with
   | some (.p k o)=>(offB t i T.fo).map fun d=>(.p k (o+d),orc,[])
   | _=>none
 | .load t x=>match opnd s x with
   | some (.p k o)=>bif memB t T.ld then (T.cell k o).map fun v=>(v,orc,[])
     else bif memB t T.l2 then (((T.cell k o).bind SV.plain).bind fun v=>((T.cell k (o+1)).bind SV.plain).map fun v'=>(.v (.agg #[v,v']),orc,[]))
     else none
   | _=>none
 | .binOp op t x y _=>match opnd s x,opnd s y,orc with
   | some a,some b,z::orc=>some (z,orc,[⟨op,t,x,y,a,b,z⟩])
   | _,_,_=>none
 | .call ⟨.builtin .len,⟨[x]⟩,⟨[t]⟩⟩=>match opnd s x with
   | some (.v (.slice _ n _))=>bif memB t T.sl then some (.v (.int .i64 (n:Int)),orc,[]) else none
   | _=>none
 | _=>none
def wantV(ds:List (Option Tmp))(s:List SV):Option (Nat×Bool)→Option Bool
 | none=>some true
 | some (j,b)=>match nthB ds j with
   | some (some d)=>match nthB s d with
     | some (.b x)=>some (bif b then x else !x)
     | some .u=>some false
     | some (.p _ _)=>some false
     | _=>none
   | _=>none
def putV(s:List SV):Option Tmp→SV→List SV
 | none,_=>s
 | some d,v=>setB s d v
def runV(T:PTb)(ds:List (Option Tmp)):List Oper→List SV→List SV→Option (List SV×List PCond)
 | [],s,_=>some (s,[])
 | o::l,s,orc=>match wantV ds s o.guard with
   | some true=>(stepV T s orc o.op).bind fun r=>(runV T ds l (putV s o.dst r.1) r.2.1).map fun q=>(q.1,r.2.2++q.2)
   | some false=>runV T ds l (putV s o.dst .u) orc
   | none=>none
structure PTb.ok(P:Program)(β:Nat→Nat)(w:World)(T:PTb):Prop where
 fo:∀t i d,offB t i T.fo=some d→∀b off,(Instr.fieldAt t (.pointer (some ⟨b,off,none⟩)) i).run P w= .ok (.pointer (some ⟨b,off+d,none⟩)) w
 ld:∀t,memB t T.ld=true→∀b off v,w.cell? ⟨b,off,none⟩=some v→(Instr.loadAt t (.pointer (some ⟨b,off,none⟩))).run P w= .ok v w
 l2:∀t,memB t T.l2=true→∀b off v v',w.cell? ⟨b,off,none⟩=some v→w.cell? ⟨b,off+1,none⟩=some v'→(Instr.loadAt t (.pointer (some ⟨b,off,none⟩))).run P w= .ok (.agg #[v,v']) w
 sl:∀t,memB t T.sl=true→∀A n c ty,(Builtin.len_ #[t] ty #[.slice A n c]).run P w= .ok (.int .i64 (n:Int)) w
 M:∀k l,nthB T.M k=some l→∀i s,nthB l i=some s→w.cell? ⟨β k,i,none⟩=some (s.den β)
section
variable {P:Program} {β:Nat→Nat} {w:World} {T:PTb}
def actV(β:Nat→Nat)(s:List SV)(ds:List Deferred):Act:=⟨(s.map (SV.den β)).toArray,ds⟩
theorem opnd_ok{s:List SV}{ds:List Deferred}{x:Operand}{v:SV}(h:opnd s x=some v):(actV β s ds).eval x=v.den β:=by
 unfold opnd at h;split at h
 ·rw[nthB_eq]at h
  rename_i t
  unfold actV Act.eval;simp[h]
 ·injection h with h;subst h;rfl
 ·injection h with h;subst h;rfl
 ·cases h
theorem plain_ok{s:SV}{v:Value}(h:s.plain=some v):s.den β=v:=by
 cases s<;>simp[SV.plain]at h<;>subst h<;>rfl
theorem cell_ok(hT:T.ok P β w){k o:Nat}{v:SV}(h:T.cell k o=some v):w.cell? ⟨β k,o,none⟩=some (v.den β):=by
 unfold PTb.cell at h
 cases hl:nthB T.M k with
 | none=>rw[hl]at h;cases h
 | some l=>
   rw[hl]at h;exact hT.M k l hl o v h
theorem stepV_ok(hT:T.ok P β w){s orc orc':List SV}{ds:List Deferred}{o:Oper}{v:SV}{cs:List PCond}(h:stepV T s orc o.op=some (v,orc',cs))(hc:∀c∈cs,c.ok P β w):(execOp (actV β s ds).eval o).run P w= .ok (.value (v.den β)) w:=by
 unfold stepV at h;split at h
 case h_1 op x ho=>
  cases hx:opnd s x with
  | none=>rw[hx]at h;cases h
  | some a=>
    rw[hx]at h;simp only[Option.map_some,Option.some.injEq,Prod.mk.injEq]at h;obtain⟨rfl,_,_⟩:=h;simp[execOp,ho,opnd_ok hx]
 case h_2 op x ho=>
  cases hx:opnd s x with
  | none=>rw[hx]at h;cases h
  | some a=>
    rw[hx]at h;simp only[Option.map_some,Option.some.injEq,Prod.mk.injEq]at h;obtain⟨rfl,_,_⟩:=h;simp[execOp,ho,opnd_ok hx]
 case h_3 op c x y ho=>
  cases hcc:opnd s c with
  | none=>rw[hcc]at h;cases h
  | some a=>
    rw[hcc]at h
    cases a with
    | v x=>cases h
    | p k o=>cases h
    | u=>cases h
    | b bb=>
      cases bb with
      | true=>
        simp only at h
        cases hx:opnd s x with
        | none=>rw[hx]at h;cases h
        | some a=>
          rw[hx]at h;simp only[Option.map_some,Option.some.injEq,Prod.mk.injEq]at h;obtain⟨rfl,_,_⟩:=h;simp[execOp,ho,opnd_ok hx,opnd_ok hcc,SV.den,asBool]
      | false=>
        simp only at h
        cases hx:opnd s y with
        | none=>rw[hx]at h;cases h
        | some a=>
          rw[hx]at h;simp only[Option.map_some,Option.some.injEq,Prod.mk.injEq]at h;obtain⟨rfl,_,_⟩:=h;simp[execOp,ho,opnd_ok hx,opnd_ok hcc,SV.den,asBool]
 case h_4 op t x i ho=>
  cases hx:opnd s x with
  | none=>rw[hx]at h;cases h
  | some a=>
    rw[hx]at h
    cases a with
    | v x=>cases h
    | b x=>cases h
    | u=>cases h
    | p k of=>
      simp only at h
      cases hf:offB t i T.fo with
      | none=>rw[hf]at h;cases h
      | some d=>
        rw[hf]at h;simp only[Option.map_some,Option.some.injEq,Prod.mk.injEq]at h;obtain⟨rfl,_,_⟩:=h;have:=hT.fo t i d hf (β k) of;simp[execOp,ho,opnd_ok hx,SV.den,this,Result.andThen]
 case h_5 op t x ho=>
  cases hx:opnd s x with
  | none=>rw[hx]at h;cases h
  | some a=>
    rw[hx]at h
    cases a with
    | v x=>cases h
    | b x=>cases h
    | u=>cases h
    | p k of=>
      simp only[cond_eq_ite]at h;split at h
      ·rename_i hld
       cases hl:T.cell k of with
       | none=>rw[hl]at h;cases h
       | some a=>
         rw[hl]at h;simp only[Option.map_some,Option.some.injEq,Prod.mk.injEq]at h;obtain⟨rfl,_,_⟩:=h;have:=hT.ld t hld _ _ _ (cell_ok hT hl);simp[execOp,ho,opnd_ok hx,SV.den,this,Result.andThen]
      ·split at h
       ·rename_i hl2
        cases hl:T.cell k of with
        | none=>rw[hl]at h;cases h
        | some a=>
          rw[hl]at h;simp only[Option.bind_some]at h
          cases hp:a.plain with
          | none=>rw[hp]at h;cases h
          | some pv=>
            rw[hp]at h;simp only[Option.bind_some]at h
            cases hl':T.cell k (of+1) with
            | none=>rw[hl']at h;cases h
            | some a'=>
              rw[hl']at h;simp only[Option.bind_some]at h
              cases hp':a'.plain with
              | none=>rw[hp']at h;cases h
              | some pv'=>
                rw[hp']at h;simp only[Option.map_some,Option.some.injEq,Prod.mk.injEq]at h;obtain⟨rfl,_,_⟩:=h;have h1:=cell_ok hT hl;have h2:=cell_ok hT hl';rw[plain_ok hp]at h1;rw[plain_ok hp']at h2;have:=hT.l2 t hl2 _ _ _ _ h1 h2;simp[execOp,ho,opnd_ok hx,SV.den,this,Result.andThen]
       ·cases h
 case h_6 op t x y r ho=>
  split at h
  ·rename_i a b z orc2 hx hy
   simp only[Option.some.injEq,Prod.mk.injEq]at h;obtain⟨rfl,_,rfl⟩:=h;have:=hc _ (List.mem_singleton.2 rfl);unfold PCond.ok at this;simp only at this;simp only[Sem.run_bind]at this;simp only[execOp,ho,opnd_ok hx,opnd_ok hy,Sem.run_bind,this,Result.andThen_ok,Sem.run_pure]
  ·cases h
 case h_7 x t ho=>
  cases hx:opnd s x with
  | none=>rw[hx]at h;cases h
  | some a=>
    rw[hx]at h
    try simp only at h
    split at h
    ·rename_i A n c e
     injection e with e
     subst e;simp only[cond_eq_ite]at h;split at h
     ·rename_i hs
      simp only[Option.some.injEq,Prod.mk.injEq]at h;obtain⟨rfl,_,_⟩:=h;have:=hT.sl t hs A n c o.type;have hx':=opnd_ok (β:=β) (ds:=ds) hx;simp only[SV.den]at hx';simp only[execOp,ho,resolve,invoke,builtin,Sem.run_bind,Sem.run_pure,Result.andThen_ok,List.map_toArray,List.map_cons,List.map_nil,hx',this,SV.den]
     ·cases h
    ·cases h
 case h_8=>cases h
theorem wantV_ok{ops:Array Oper}{s:List SV}{ds:List Deferred}{o:Oper}{r:Bool}(h:wantV (ops.toList.map (·.dst)) s o.guard=some r):Region.wanted o (yielded ops (actV β s ds).tmps)=r:=by
 unfold Region.wanted;unfold wantV at h
 cases hg:o.guard with
 | none=>rw[hg]at h;simp only[Option.some.injEq]at h;exact h
 | some jb=>
   obtain⟨j,b⟩:=jb;rw[hg]at h;simp only[nthB_eq]at h ⊢
   cases hj:(ops.toList.map (·.dst))[j]? with
   | none=>rw[hj]at h;cases h
   | some dd=>
     rw[hj]at h
     cases dd with
     | none=>cases h
     | some d=>
       simp only at h
       have hop:(ops[j]?).bind (·.dst)=some d:=by
        rw[qgm]at hj;rw[←Array.getElem?_toList]
        cases ho:ops.toList[j]? with
        | none=>rw[ho]at hj;cases hj
        | some oo=>rw[ho]at hj;simpa using hj
       unfold yielded;rw[hop]
       cases hs:s[d]? with
       | none=>rw[hs]at h;cases h
       | some sv=>
         have ht:(actV β s ds).tmps[d]? =some (sv.den β):=by unfold actV;simp[hs]
         rw[hs]at h;simp only[Option.bind_some,ht]
         cases sv with
         | v x=>cases h
         | b x=>
           simp only[Option.some.injEq]at h;subst h
           cases b<;>cases x<;>rfl
         | u=>
           simp only[Option.some.injEq]at h;subst h;rfl
         | p k of=>
           simp only[Option.some.injEq]at h;subst h;rfl
theorem putV_ok{s:List SV}{ds:List Deferred}{d:Option Tmp}{v:SV}:(actV β s ds).put d (v.den β)=actV β (putV s d v) ds:=by
 cases d with
 | none=>rfl
 | some d=>
   unfold actV Act.put putV;simp only[setB_eq,qsA,List.map_set]
theorem runV_ok(hT:T.ok P β w){ops:Array Oper}{Q:Exit→Act→World→Prop}{ds:List Deferred}:∀(l:List Oper) (s orc s':List SV) (cs:List PCond),runV T (ops.toList.map (·.dst)) l s orc=some (s',cs)→(∀c∈cs,c.ok P β w)→Q .normal (actV β s' ds) w→wpList P ops Q l (actV β s ds) w:=by
 intro l
 induction l with
 | nil=>
   intro s orc s' cs h _ hq;simp only[runV,Option.some.injEq,Prod.mk.injEq]at h;obtain⟨rfl,_⟩:=h;exact wpList_nil hq
 | cons o l ih=>
   intro s orc s' cs h hc hq;unfold runV at h
   cases hw:wantV (ops.toList.map (·.dst)) s o.guard with
   | none=>rw[hw]at h;cases h
   | some r=>
     have hwant:=wantV_ok (β:=β) (ds:=ds) hw;rw[hw]at h
     cases r with
     | true=>
       simp only at h
       cases hst:stepV T s orc o.op with
       | none=>rw[hst]at h;cases h
       | some rr=>
         obtain⟨v,orc',c1⟩:=rr;rw[hst]at h;simp only[Option.bind_some]at h
         cases hr:runV T (ops.toList.map (·.dst)) l (putV s o.dst v) orc' with
         | none=>rw[hr]at h;cases h
         | some q=>
           obtain⟨s2,c2⟩:=q;rw[hr]at h;simp only[Option.map_some,Option.some.injEq,Prod.mk.injEq]at h;obtain⟨rfl,rfl⟩:=h;have hrun:=stepV_ok (ds:=ds) hT hst fun c hcc=>hc c (List.mem_append_left _ hcc)
           have hrest:=ih _ _ _ _ hr (fun c hcc=>hc c (List.mem_append_right _ hcc)) hq
           refine wpList_step fun K hK=> ?_
           rw[if_pos hwant];unfold Oper.wp;rw[hrun,Oper.upon_value,putV_ok];exact hK _ _ hrest
     | false=>
       simp only at h;have hrest:=ih _ _ _ _ h hc hq;refine wpList_skip hwant ?_;rw[show undef=SV.u.den β from rfl,putV_ok];exact hrest
theorem wp_region_pr(hT:T.ok P β w){id:Nat}{l:List Oper}{Q:Exit→Act→World→Prop}{ds:List Deferred}{s orc:List SV}{k:Nat}{z:SV}{cs:List PCond}
 (hrun:(runV T (l.map (·.dst)) l s orc).map (fun r=>(nthB r.1 k,r.2))=some (some z,cs)) (hc:∀c∈cs,c.ok P β w)
 (hq:∀tmps:Array Value,tmps.getD k undef=z.den β→Q .normal ⟨tmps,ds⟩ w):(Code.region id l.toArray false).wp P Q (actV β s ds) w:=by
 refine wp_region_lit ?_
 cases hr:runV T (l.map (·.dst)) l s orc with
 | none=>rw[hr]at hrun;cases hrun
 | some r=>
   obtain⟨s',cs'⟩:=r;rw[hr]at hrun;simp only[Option.map_some,Option.some.injEq,Prod.mk.injEq]at hrun;obtain⟨h1,rfl⟩:=hrun;refine runV_ok hT l s orc s' cs' (by simpa using hr) hc (hq _ ?_)
   rw[nthB_eq]at h1;simp[h1]
inductive PK where
 | mv (x:Operand)
 | pk (c x y:Operand)
 | fa (x:Operand) (d:Nat)
 | ld (x:Operand)
 | l2 (x:Operand)
 | bin (op:BinOp) (t:TypeId) (x y:Operand)
 | len (x:Operand)
structure POp where
 dst:Option Tmp
 g:Option (Option Tmp×Bool)
 k:PK
def shortK(T:PTb):Op→Option PK
 | .move x=>some (.mv x)
 | .assign x=>some (.mv x)
 | .pick c x y=>some (.pk c x y)
 | .fieldAddr t x i=>(offB t i T.fo).map fun d=> .fa x d
 | .load t x=>bif memB t T.ld then some (.ld x) else bif memB t T.l2 then some (.l2 x) else none
 | .binOp op t x y _=>some (.bin op t x y)
 | .call ⟨.builtin .len,⟨[x]⟩,⟨[t]⟩⟩=>bif memB t T.sl then some (.len x) else none
 | _=>none
def shortL(T:PTb)(ds:List (Option Tmp)):List Oper→Option (List POp)
 | []=>some []
 | o::l=>(shortK T o.op).bind fun k=>(shortL T ds l).map fun r=>⟨o.dst,o.guard.map fun jb=>((nthB ds jb.1).bind id,jb.2),k⟩::r
def stepP(M:List (List SV))(s:List SV)(orc:List SV):PK→Option (SV×List SV×List PCond)
 | .mv x=>(opnd s x).map fun v=>(v,orc,[])
 | .pk c x y=>match opnd s c with
   | some (.b true)=>(opnd s x).map fun v=>(v,orc,[])
   | some (.b false)=>(opnd s y).map fun v=>(v,orc,[])
   | _=>none
 | .fa x d=>match opnd s x with
   | some (.p k o)=>some (.p k (o+d),orc,[])
   | _=>none
 | .ld x=>match opnd s x with
   | some (.p k o)=>((nthB M k).bind fun l=>nthB l o).map fun v=>(v,orc,[])
   | _=>none
 | .l2 x=>match opnd s x with
   | some (.p k o)=>((((nthB M k).bind fun l=>nthB l o).bind SV.plain).bind fun v=>(((nthB M k).bind fun l=>nthB l (o+1)).bind SV.plain).map fun v'=>(.v (.agg #[v,v']),orc,[]))
   | _=>none
 | .bin op t x y=>match opnd s x,opnd s y,orc with
   | some a,some b,z::orc=>some (z,orc,[⟨op,t,x,y,a,b,z⟩])
   | _,_,_=>none
 | .len x=>match opnd s x with
   | some (.v (.slice _ n _))=>some (.v (.int .i64 (n:Int)),orc,[])
   | _=>none
def wantP(s:List SV):Option (Option Tmp×Bool)→Option Bool
 | none=>some true
 | some (some d,b)=>match nthB s d with
   | some (.b x)=>some (bif b then x else !x)
   | some .u=>some false
   | some (.p _ _)=>some false
   | _=>none
 | some (none,_)=>none
def runP(M:List (List SV)):List POp→List SV→List SV→Option (List SV×List PCond)
 | [],s,_=>some (s,[])
 | o::l,s,orc=>match wantP s o.g with
   | some true=>(stepP M s orc o.k).bind fun r=>(runP M l (putV s o.dst r.1) r.2.1).map fun q=>(q.1,r.2.2++q.2)
   | some false=>runP M l (putV s o.dst .u) orc
   | none=>none
theorem stepP_eq(T:PTb){op:Op}{k:PK}(h:shortK T op=some k)(s orc:List SV):stepV T s orc op=stepP T.M s orc k:=by
 unfold shortK at h;split at h
 ·injection h with h;subst h;rfl
 ·injection h with h;subst h;rfl
 ·injection h with h;subst h;rfl
 ·rename_i t x i
  cases ho:offB t i T.fo with
  | none=>rw[ho]at h;cases h
  | some d=>
    rw[ho]at h;injection h with h
    subst h;simp only[stepV,stepP,ho,Option.map_some]
 ·rename_i t x
  simp only[cond_eq_ite]at h;split at h
  ·rename_i hl
   injection h with h
   subst h;simp only[stepV,stepP,hl,cond_true];rfl
  ·rename_i hl
   split at h
   ·rename_i hl2
    injection h with h
    subst h;rw[Bool.not_eq_true]at hl;simp only[stepV,stepP,hl,hl2,cond_true,cond_false];rfl
   ·cases h
 ·injection h with h;subst h;rfl
 ·rename_i x t
  simp only[cond_eq_ite]at h;split at h
  ·rename_i hl
   injection h with h
   subst h;simp only[stepV,stepP,hl,cond_true]
  ·cases h
 ·cases h
theorem wantP_eq(ds:List (Option Tmp))(s:List SV)(g:Option (Nat×Bool)):wantV ds s g=wantP s (g.map fun jb=>((nthB ds jb.1).bind id,jb.2)):=by
 cases g with
 | none=>rfl
 | some jb=>
   obtain⟨j,b⟩:=jb;unfold wantV
   cases h:nthB ds j with
   | none=>simp[wantP,h]
   | some o=>
     cases o with
     | none=>simp[wantP,h]
     | some d=>
       simp only[Option.map_some,wantP,h,Option.bind_some,id_eq]
theorem runP_eq(T:PTb)(ds:List (Option Tmp)):∀(l:List Oper) (ps:List POp),shortL T ds l=some ps→∀s orc,runV T ds l s orc=runP T.M ps s orc:=by
 intro l
 induction l with
 | nil=>
   intro ps h s orc;injection h with h
   subst h;rfl
 | cons o l ih=>
   intro ps h s orc;unfold shortL at h
   cases hk:shortK T o.op with
   | none=>rw[hk]at h;cases h
   | some k=>
     rw[hk]at h;simp only[Option.bind_some]at h
     cases hr:shortL T ds l with
     | none=>rw[hr]at h;cases h
     | some r=>
       rw[hr]at h;injection h with h
       subst h;unfold runV runP;rw[wantP_eq,stepP_eq T hk];simp only[ih r hr]
theorem wp_region_ps(hT:T.ok P β w){id:Nat}{l:List Oper}{ps:List POp}{a:Act}{Q:Exit→Act→World→Prop}{ds:List Deferred}{s orc:List SV}{k:Nat}{z:SV}{cs:List PCond}(hl:shortL T (l.map (·.dst)) l=some ps)(ha:a=actV β s ds)
 (hrun:(runP T.M ps s orc).map (fun r=>(nthB r.1 k,r.2))=some (some z,cs)) (hc:∀c∈cs,c.ok P β w)
 (hq:∀tmps:Array Value,tmps.getD k undef=z.den β→Q .normal ⟨tmps,ds⟩ w):(Code.region id l.toArray false).wp P Q a w:=by
 subst ha;exact wp_region_pr hT (by rw[runP_eq T _ l ps hl];exact hrun) hc hq
end
theorem offB_mem{t i d:Nat}:∀{l:List (Nat×Nat×Nat)},offB t i l=some d→(t,i,d)∈l:=by
 intro l
 induction l with
 | nil=>intro h;cases h
 | cons e l ih=>
   obtain⟨t',i',d'⟩:=e;intro h;simp only[offB,cond_eq_ite]at h;split at h
   ·rename_i hb
    rw[Bool.and_eq_true,Nat.beq_eq,Nat.beq_eq]at hb;obtain⟨rfl,rfl⟩:=hb;injection h with h
    subst h;exact List.mem_cons_self
   ·exact List.mem_cons_of_mem _ (ih h)
theorem memB_mem{t:Nat}:∀{l:List Nat},memB t l=true→t∈l:=by
 intro l
 induction l with
 | nil=>intro h;cases h
 | cons e l ih=>
   intro h;rw[memB,Bool.or_eq_true,Nat.beq_eq]at h
   rcases h with rfl | h
   ·exact List.mem_cons_self
   ·exact List.mem_cons_of_mem _ (ih h)
section
variable {P:Program}
theorem run_fieldAt{t i sz:Nat}{fs:Array Field}{f:Field}(hu:P.underlying t=some (.struct fs))(hf:fs[i]? =some f)(hs:(P.info? f.type).map (·.size)=some sz)(h0:sz≠0)(w:World)(b off:Nat):
 (Instr.fieldAt t (.pointer (some ⟨b,off,none⟩)) i).run P w= .ok (.pointer (some ⟨b,off+f.offset,none⟩)) w:=by
 cases hq:P.info? f.type with
 | none=>rw[hq]at hs;cases hs
 | some q=>
   rw[hq]at hs;simp only[Option.map_some,Option.some.injEq]at hs;have h1:¬q.size=0:=by omega
   have ha:(⟨b,off,none⟩:Addr).add f.offset=⟨b,off+f.offset,none⟩:=by unfold Addr.add;split<;>simp_all
   simp[Instr.fieldAt,run_underlying hu,hf,Instr.sureAddr,fieldPlace,sizeOf,typeInfo,hq,h1,ha]
theorem run_load1{t:Nat}{d:TypeDesc}(hu:P.underlying t=some d)(hd:d.isRow=false){w:World}{b off:Nat}{v:Value}(hc:w.cell? ⟨b,off,none⟩=some v):(Instr.loadAt t (.pointer (some ⟨b,off,none⟩))).run P w= .ok v w:=by
 have hagg:(isAgg t).run P w= .ok false w:=by
  unfold isAgg;rw[Sem.run_bind,run_underlying hu w]
  cases d<;>simp_all [TypeDesc.isRow]
 simp[Instr.loadAt,Instr.sureAddr,loadVar,Sem.run_bind,hagg,load,Sem.run,hc]
end
def foT:List (Nat×Nat×Nat):=[(38,0,0),(38,1,1),(38,2,2),(38,3,3),(38,4,4),(38,5,5),(38,6,7),(38,7,9),(38,8,10),(38,9,11),(38,10,12),(38,11,13),(38,12,14),(38,13,15),(223,0,0),(223,1,1),(223,2,2),(223,3,3),(223,4,4),(223,5,5),(223,6,6),(223,7,7),(223,8,8),(105,0,0),(105,1,1),(105,2,2),(105,3,3),(105,4,4),(105,5,5),(105,6,6),(105,7,7)]
theorem foT_ok(w:World):∀t i d,offB t i foT=some d→∀b off,(Instr.fieldAt t (.pointer (some ⟨b,off,none⟩)) i).run Tryz.prog w= .ok (.pointer (some ⟨b,off+d,none⟩)) w:=by
 intro t i d h;have h:=offB_mem h;unfold foT at h;simp only[qmc,List.not_mem_nil,or_false,Prod.mk.injEq]at h
 rcases h with⟨rfl,rfl,rfl⟩ | ⟨rfl,rfl,rfl⟩ | ⟨rfl,rfl,rfl⟩ | ⟨rfl,rfl,rfl⟩ | ⟨rfl,rfl,rfl⟩ | ⟨rfl,rfl,rfl⟩ | ⟨rfl,rfl,rfl⟩ | ⟨rfl,rfl,rfl⟩ | ⟨rfl,rfl,rfl⟩ | ⟨rfl,rfl,rfl⟩ | ⟨rfl,rfl,rfl⟩ | ⟨rfl,rfl,rfl⟩ | ⟨rfl,rfl,rfl⟩ | ⟨rfl,rfl,rfl⟩ | ⟨rfl,rfl,rfl⟩ | ⟨rfl,rfl,rfl⟩ | ⟨rfl,rfl,rfl⟩ | ⟨rfl,rfl,rfl⟩ | ⟨rfl,rfl,rfl⟩ | ⟨rfl,rfl,rfl⟩ | ⟨rfl,rfl,rfl⟩ | ⟨rfl,rfl,rfl⟩ | ⟨rfl,rfl,rfl⟩ | ⟨rfl,rfl,rfl⟩ | ⟨rfl,rfl,rfl⟩ | ⟨rfl,rfl,rfl⟩ | ⟨rfl,rfl,rfl⟩ | ⟨rfl,rfl,rfl⟩ | ⟨rfl,rfl,rfl⟩ | ⟨rfl,rfl,rfl⟩ | ⟨rfl,rfl,rfl⟩
 ·exact run_fieldAt (i:=0) (sz:=1) Tryz.underlying38 rfl (by kernel_rfl) (by omega) w
 ·exact run_fieldAt (i:=1) (sz:=1) Tryz.underlying38 rfl (by kernel_rfl) (by omega) w
 ·exact run_fieldAt (i:=2) (sz:=1) Tryz.underlying38 rfl (by kernel_rfl) (by omega) w
 ·exact run_fieldAt (i:=3) (sz:=1) Tryz.underlying38 rfl (by kernel_rfl) (by omega) w
 ·exact run_fieldAt (i:=4) (sz:=1) Tryz.underlying38 rfl (by kernel_rfl) (by omega) w
 ·exact run_fieldAt (i:=5) (sz:=2) Tryz.underlying38 rfl (by kernel_rfl) (by omega) w
 ·exact run_fieldAt (i:=6) (sz:=2) Tryz.underlying38 rfl (by kernel_rfl) (by omega) w
 ·exact run_fieldAt (i:=7) (sz:=1) Tryz.underlying38 rfl (by kernel_rfl) (by omega) w
 ·exact run_fieldAt (i:=8) (sz:=1) Tryz.underlying38 rfl (by kernel_rfl) (by omega) w
 ·exact run_fieldAt (i:=9) (sz:=1) Tryz.underlying38 rfl (by kernel_rfl) (by omega) w
 ·exact run_fieldAt (i:=10) (sz:=1) Tryz.underlying38 rfl (by kernel_rfl) (by omega) w
 ·exact run_fieldAt (i:=11) (sz:=1) Tryz.underlying38 rfl (by kernel_rfl) (by omega) w
 ·exact run_fieldAt (i:=12) (sz:=1) Tryz.underlying38 rfl (by kernel_rfl) (by omega) w
 ·exact run_fieldAt (i:=13) (sz:=1) Tryz.underlying38 rfl (by kernel_rfl) (by omega) w
 ·exact run_fieldAt (i:=0) (sz:=1) Tryz.underlying223 rfl (by kernel_rfl) (by omega) w
 ·exact run_fieldAt (i:=1) (sz:=1) Tryz.underlying223 rfl (by kernel_rfl) (by omega) w
 ·exact run_fieldAt (i:=2) (sz:=1) Tryz.underlying223 rfl (by kernel_rfl) (by omega) w
 ·exact run_fieldAt (i:=3) (sz:=1) Tryz.underlying223 rfl (by kernel_rfl) (by omega) w
 ·exact run_fieldAt (i:=4) (sz:=1) Tryz.underlying223 rfl (by kernel_rfl) (by omega) w
 ·exact run_fieldAt (i:=5) (sz:=1) Tryz.underlying223 rfl (by kernel_rfl) (by omega) w
 ·exact run_fieldAt (i:=6) (sz:=1) Tryz.underlying223 rfl (by kernel_rfl) (by omega) w
 ·exact run_fieldAt (i:=7) (sz:=1) Tryz.underlying223 rfl (by kernel_rfl) (by omega) w
 ·exact run_fieldAt (i:=8) (sz:=1) Tryz.underlying223 rfl (by kernel_rfl) (by omega) w
 ·exact run_fieldAt (i:=0) (sz:=1) Tryz.underlying105 rfl (by kernel_rfl) (by omega) w
 ·exact run_fieldAt (i:=1) (sz:=1) Tryz.underlying105 rfl (by kernel_rfl) (by omega) w
 ·exact run_fieldAt (i:=2) (sz:=1) Tryz.underlying105 rfl (by kernel_rfl) (by omega) w
 ·exact run_fieldAt (i:=3) (sz:=1) Tryz.underlying105 rfl (by kernel_rfl) (by omega) w
 ·exact run_fieldAt (i:=4) (sz:=1) Tryz.underlying105 rfl (by kernel_rfl) (by omega) w
 ·exact run_fieldAt (i:=5) (sz:=1) Tryz.underlying105 rfl (by kernel_rfl) (by omega) w
 ·exact run_fieldAt (i:=6) (sz:=1) Tryz.underlying105 rfl (by kernel_rfl) (by omega) w
 ·exact run_fieldAt (i:=7) (sz:=1) Tryz.underlying105 rfl (by kernel_rfl) (by omega) w
def ldT:List Nat:=[3,4,9,32,33,34,35,36]
theorem ldT_ok(w:World):∀t,memB t ldT=true→∀b off v,w.cell? ⟨b,off,none⟩=some v→(Instr.loadAt t (.pointer (some ⟨b,off,none⟩))).run Tryz.prog w= .ok v w:=by
 intro t h b off v hc;have h:=memB_mem h;unfold ldT at h;simp only[qmc,List.not_mem_nil,or_false]at h
 rcases h with rfl | rfl | rfl | rfl | rfl | rfl | rfl | rfl
 ·exact run_load1 Tryz.underlying3 rfl hc
 ·exact run_load1 Tryz.underlying4 rfl hc
 ·exact run_load1 Tryz.underlying9 rfl hc
 ·exact run_load1 Tryz.underlying32 rfl hc
 ·exact run_load1 Tryz.underlying33 rfl hc
 ·exact run_load1 Tryz.underlying34 rfl hc
 ·exact run_load1 Tryz.underlying35 rfl hc
 ·exact run_load1 Tryz.underlying36 rfl hc
theorem l2T_ok(w:World):∀t,memB t [31]=true→∀b off v v',w.cell? ⟨b,off,none⟩=some v→w.cell? ⟨b,off+1,none⟩=some v'→(Instr.loadAt t (.pointer (some ⟨b,off,none⟩))).run Tryz.prog w= .ok (.agg #[v,v']) w:=by
 intro t h b off v v' h1 h2;have h:=memB_mem h;simp only[qmc,List.not_mem_nil,or_false]at h;subst h
 exact run_loadAt_mid w b off 31 [v,v'] _ (fun j u hj=>by
  match j,hj with
  | 0,hj=>simp only[qZ,Option.some.injEq]at hj;subst hj;exact h1
  | 1,hj=>simp only[qZ,qS,Option.some.injEq]at hj;subst hj;exact h2
  | n+2,hj=>simp at hj) Tryz.underlying31 rfl (by kernel_rfl)
def slT:List Nat:=[32,33,34,35,36]
theorem slT_ok(w:World):∀t,memB t slT=true→∀A n c ty,(Builtin.len_ #[t] ty #[.slice A n c]).run Tryz.prog w= .ok (.int .i64 (n:Int)) w:=by
 intro t h A n c ty;have h:=memB_mem h;unfold slT at h;simp only[qmc,List.not_mem_nil,or_false]at h
 rcases h with rfl | rfl | rfl | rfl | rfl
 ·simp[Builtin.len_,run_underlying Tryz.underlying32,goInt]
 ·simp[Builtin.len_,run_underlying Tryz.underlying33,goInt]
 ·simp[Builtin.len_,run_underlying Tryz.underlying34,goInt]
 ·simp[Builtin.len_,run_underlying Tryz.underlying35,goInt]
 ·simp[Builtin.len_,run_underlying Tryz.underlying36,goInt]
def recT(M:List (List SV)):PTb:=⟨foT,ldT,[31],slT,M⟩
theorem recT_ok{β:Nat→Nat}{w:World}{M:List (List SV)}(hM:∀k l,nthB M k=some l→∀i s,nthB l i=some s→w.cell? ⟨β k,i,none⟩=some (s.den β)):(recT M).ok Tryz.prog β w:=⟨foT_ok w,ldT_ok w,l2T_ok w,slT_ok w,hM⟩
theorem row_tab{β:Nat→Nat}{w:World}{k t:Nat}{cs:Array Value}{l:List SV}(h:Blk w (β k) t cs)(hl:cs=(l.map (SV.den β)).toArray):∀i s,nthB l i=some s→w.cell? ⟨β k,i,none⟩=some (s.den β):=by
 intro i s hi;rw[nthB_eq]at hi;rw[h.cell i,hl];simp[hi]
end Go.Proofs.YtljmmkjdlcfkpaaGreatDoor
