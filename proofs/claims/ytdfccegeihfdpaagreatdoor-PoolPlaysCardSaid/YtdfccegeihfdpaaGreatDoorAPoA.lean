/-
  Pages of cells: sorted keys, a value set (plain Lean, no program in sight). A page's two places on the disk, written by turns (plain Lean, no program in sight). A list sorted by numbers that differ is told by its members (plain Lean, no program in sight). A page's bytes, and what is read of them (plain Lean, no program in sight).
-/
import Derived.Test.YtdfccegeihfdpaaGreatDoorAWm1
namespace Go.Proofs.YtdfccegeihfdpaaGreatDoor
abbrev Ky:=List UInt8
abbrev Vl:=Bool×List UInt8
def noV:Vl:=(false,[])
abbrev Cl:=List (Ky×Vl)
abbrev RisC(L:Cl):Prop:=L.Pairwise fun a b=>a.1<b.1
def setC:Cl→Ky→Vl→Cl
 | [],k,v=>[(k,v)]
 | (a,b)::L,k,v=>if k<a then (k,v)::(a,b)::L else if a=k then (k,v)::L else (a,b)::setC L k v
theorem setC_mem(k:Ky)(v:Vl):∀(L:Cl) (p:Ky×Vl),p∈setC L k v→p=(k,v)∨p∈L
 | [],p,h=> .inl (List.mem_singleton.1 h)
 | (a,b)::L,p,h=>by
   unfold setC at h;split at h
   ·exact(qmc.1 h).imp id id
   ·split at h
    ·exact(qmc.1 h).imp id fun h=>List.mem_cons_of_mem _ h
    ·rcases qmc.1 h with h | h
     ·exact .inr (h▸List.mem_cons_self ..)
     ·exact(setC_mem k v L p h).imp id fun h=>List.mem_cons_of_mem _ h
theorem setC_in(k:Ky)(v:Vl):∀L:Cl,(k,v)∈setC L k v
 | []=>List.mem_singleton.2 rfl
 | (a,b)::L=>by
   unfold setC;split
   ·exact List.mem_cons_self ..
   ·split
    ·exact List.mem_cons_self ..
    ·exact List.mem_cons_of_mem _ (setC_in k v L)
theorem setC_ris(k:Ky)(v:Vl):∀{L:Cl},RisC L→RisC (setC L k v)
 | [],_=>List.pairwise_singleton _ _
 | (a,b)::L,h=>by
   obtain⟨h1,h2⟩:=List.pairwise_cons.1 h;unfold setC;split
   ·rename_i hk
    exact List.pairwise_cons.2 ⟨fun p hp=>by
     rcases qmc.1 hp with rfl | hp
     ·exact hk
     ·exact List.lt_trans hk (h1 p hp),h⟩
   ·split
    ·rename_i hk
     subst hk;exact List.pairwise_cons.2 ⟨h1,h2⟩
    ·rename_i hk hn
     refine List.pairwise_cons.2 ⟨fun p hp=> ?_,setC_ris k v h2⟩
     rcases setC_mem k v L p hp with rfl | hp
     ·exact Classical.byContradiction fun hge=>hn (List.le_antisymm (List.not_lt.1 hk) (List.not_lt.1 hge))
     ·exact h1 p hp
theorem setC_len(k:Ky)(v:Vl):∀L:Cl,(setC L k v).length≤L.length+1
 | []=>qlr _
 | (a,b)::L=>by
   unfold setC;have:=setC_len k v L;split
   ·simp
   ·split
    ·simp
    ·simp;omega
structure PlaceC(L:Cl)(k:Ky)(i:Nat):Prop where
 le:i≤L.length
 less:∀(j:Nat) (p:Ky×Vl),j<i→L[j]? =some p→p.1<k
 here:∀p,L[i]? =some p→¬p.1<k
theorem PlaceC.cons{L:Cl}{k:Ky}{p:Ky×Vl}{i:Nat}(h:PlaceC (p::L) k (i+1)):PlaceC L k i∧p.1<k:=
 ⟨⟨by have:=h.le;simp at this;omega,fun j q hj hq=>h.less (j+1) q (by omega) (by simpa using hq),fun q hq=>h.here q (by simpa using hq)⟩,h.less 0 p (by omega) rfl⟩
theorem setC_new{k:Ky}{v:Vl}:∀{L:Cl} {i:Nat},PlaceC L k i→(∀p,L[i]? =some p→p.1≠k)→setC L k v=L.take i++(k,v)::L.drop i
 | [],0,_,_=>rfl
 | [],i+1,h,_=>absurd h.le (by simp)
 | (a,b)::L,0,h,hn=>by
   have h1:=h.here (a,b) rfl;have h2:=hn (a,b) rfl;unfold setC;rw[if_pos (Classical.byContradiction fun hk=>h2 (List.le_antisymm (List.not_lt.1 hk) (List.not_lt.1 h1)))];rfl
 | (a,b)::L,i+1,h,hn=>by
   obtain⟨h1,h2⟩:=h.cons;unfold setC;rw[if_neg fun hk=>List.lt_irrefl _ (List.lt_trans hk h2),if_neg fun e=>List.lt_irrefl _ (e▸h2),setC_new h1 fun p hp=>hn p (by simpa using hp)]
   rfl
theorem setC_old{k:Ky}{v u:Vl}:∀{L:Cl} {i:Nat},PlaceC L k i→L[i]? =some (k,u)→setC L k v=L.set i (k,v)
 | [],i,_,h=>by simp at h
 | (a,b)::L,0,_,h=>by
   obtain rfl:a=k:=by simpa using congrArg (Option.map Prod.fst) h
   unfold setC;rw[if_neg (List.lt_irrefl _),if_pos rfl];rfl
 | (a,b)::L,i+1,h,hx=>by
   obtain⟨h1,h2⟩:=h.cons;unfold setC;rw[if_neg fun hk=>List.lt_irrefl _ (List.lt_trans hk h2),if_neg fun e=>List.lt_irrefl _ (e▸h2),setC_old h1 (by simpa using hx)]
   rfl
def roomC(m:Nat)(L:Cl)(k:Ky):Prop:=L.length<m∨∃v,(k,v)∈L
theorem setC_room{m:Nat}{L:Cl}{k:Ky}(v:Vl)(hr:RisC L)(hm:L.length≤m)(h:roomC m L k):(setC L k v).length≤m:=by
 rcases h with h | ⟨u,h⟩
 ·have:=setC_len k v L;omega
 ·have key:∀L:Cl,RisC L→(k,u)∈L→(setC L k v).length=L.length:=by
   intro L
   induction L with
   | nil=>intro _ h;cases h
   | cons p L ih=>
     intro hr h;obtain⟨h1,h2⟩:=List.pairwise_cons.1 hr;obtain⟨a,b⟩:=p;unfold setC
     rcases qmc.1 h with h | h
     ·cases h;rw[if_neg (List.lt_irrefl _),if_pos rfl];simp
     ·have h3:=h1 _ h;rw[if_neg fun hk=>List.lt_irrefl _ (List.lt_trans hk h3),if_neg fun e=>List.lt_irrefl _ (e▸h3)];simp only[List.length_cons];rw[ih h2 h]
  rw[key L hr h];exact hm
section
variable {α:Type}
abbrev Sl(α:Type):=Option (Nat×α)
def pickS(odd:Nat)(s:Sl α)(b:α×Nat):α×Nat:=match s with
 | some (t,p)=>if b.2<t∧t % 2=odd then (p,t) else b
 | none=>b
def loadS(e:α)(s0 s1:Sl α):α×Nat:=pickS 1 s1 (pickS 0 s0 (e,0))
def putS(turn:Nat)(x:Sl α)(s:Sl α×Sl α):Sl α×Sl α:=if turn % 2=0 then (x,s.2) else (s.1,x)
theorem pickS_cases(odd:Nat)(s:Sl α)(b:α×Nat):(pickS odd s b=b∧∀t p,s=some (t,p)→t % 2=odd→t≤b.2)∨∃t p,s=some (t,p)∧t % 2=odd∧b.2<t∧pickS odd s b=(p,t):=by
 cases s with
 | none=>exact .inl ⟨rfl,fun _ _ h=>(by cases h)⟩
 | some x=>
   obtain⟨t,p⟩:=x;unfold pickS
   dsimp only
   split
   ·rename_i h
    exact .inr ⟨t,p,rfl,h.2,h.1,rfl⟩
   ·rename_i h
    refine .inl ⟨rfl,fun t' p' e h'=> ?_⟩
    cases e;exact Nat.le_of_not_lt fun h3=>h ⟨h3,h'⟩
theorem pickS_some{odd t:Nat}{p:α}{b:α×Nat}(h:b.2<t)(h':t % 2=odd):pickS odd (some (t,p)) b=(p,t):=by
 unfold pickS
 dsimp only
 rw[if_pos ⟨h,h'⟩]
theorem load_put{e q:α}{s:Sl α×Sl α}(t:Nat)(h:(loadS e s.1 s.2).2=t):loadS e (putS (t+1) (some (t+1,q)) s).1 (putS (t+1) (some (t+1,q)) s).2=(q,t+1):=by
 obtain⟨s0,s1⟩:=s;unfold loadS at*
 dsimp only at h
 by_cases hp:(t+1) % 2=0
 ·unfold putS;rw[if_pos hp]
  dsimp only
  rw[pickS_some (by simp) hp]
  rcases pickS_cases 1 s1 (q,t+1) with⟨h1,_⟩ | ⟨t',p',rfl,h2,h3,_⟩
  ·exact h1
  ·exfalso
   dsimp only at h3
   rcases pickS_cases 1 (some (t',p')) (pickS 0 s0 (e,0)) with⟨h4,h5⟩ | ⟨t2,p2,h6,_,_,h7⟩
   ·have:=h5 t' p' rfl h2;rw[h4]at h;omega
   ·cases h6;rw[h7]at h
    dsimp only at h
    omega
 ·unfold putS;rw[if_neg hp]
  dsimp only
  refine pickS_some ?_ (by omega)
  rcases pickS_cases 1 s1 (pickS 0 s0 (e,0)) with⟨h4,_⟩ | ⟨t2,p2,_,_,h6,h7⟩
  ·rw[h4]at h;omega
  ·rw[h7]at h
   dsimp only at h
   omega
end
theorem perm_sorted{α:Type}(key:α→Int):∀{L M:List α},L.Perm M→L.Pairwise (fun a b=>key a<key b)→M.Pairwise (fun a b=>key a<key b)→L=M
 | [],M,hp,_,_=>(List.nil_perm.1 hp).symm
 | x::L,[],hp,_,_=>absurd hp.length_eq (by simp)
 | x::L,y::M,hp,hL,hM=>by
   obtain⟨h1,h2⟩:=List.pairwise_cons.1 hL;obtain⟨h3,h4⟩:=List.pairwise_cons.1 hM;have hx:=hp.mem_iff.1 (List.mem_cons_self ..);have hy:=hp.mem_iff.2 (List.mem_cons_self ..)
   have hxy:x=y:=by
    rcases qmc.1 hx with h | h
    ·exact h
    ·rcases qmc.1 hy with h' | h'
     ·exact h'.symm
     ·have:=h3 x h;have:=h1 y h';omega
   subst hxy;rw[perm_sorted key ((List.perm_cons x).1 hp) h2 h4]
structure LeastAt{α:Type}(p:α→Prop)(key:α→Int)(S:α→Prop)(o:Option α):Prop where
 none_:o=none→∀x,S x→¬p x
 some_:∀a,o=some a→S a∧p a∧∀x,S x→p x→key a≤key x
theorem LeastAt.start{α:Type}(p:α→Prop)(key:α→Int):LeastAt p key (fun _=>False) none:=⟨fun _ _ h=>h.elim,fun _ h=>(by cases h)⟩
theorem LeastAt.skip{α:Type}{p:α→Prop}{key:α→Int}{S:α→Prop}{o:Option α}(h:LeastAt p key S o){a:α}(ha:¬p a∨∃b,o=some b∧key b≤key a):LeastAt p key (fun x=>S x∨x=a) o:=by
 refine⟨fun ho x hx=> ?_,fun b hb=> ?_⟩
 ·rcases hx with hx | rfl
  ·exact h.none_ ho x hx
  ·rcases ha with ha | ⟨b,hb,_⟩
   ·exact ha
   ·rw[ho]at hb;cases hb
 ·obtain⟨h1,h2,h3⟩:=h.some_ b hb;refine⟨.inl h1,h2,fun x hx hp=> ?_⟩
  rcases hx with hx | rfl
  ·exact h3 x hx hp
  ·rcases ha with ha | ⟨c,hc,hk⟩
   ·exact absurd hp ha
   ·rw[hb]at hc;cases hc;exact hk
theorem LeastAt.take{α:Type}{p:α→Prop}{key:α→Int}{S:α→Prop}{o:Option α}(h:LeastAt p key S o){a:α}(ha:p a)(hl:∀b,o=some b→key a<key b):LeastAt p key (fun x=>S x∨x=a) (some a):=by
 refine⟨fun ho=>(by cases ho),fun b hb=> ?_⟩
 cases hb;refine⟨.inr rfl,ha,fun x hx hp=> ?_⟩
 rcases hx with hx | rfl
 ·cases o with
  | none=>exact absurd hp (h.none_ rfl x hx)
  | some b=>
    have h1:=hl b rfl;have h2:=(h.some_ b rfl).2.2 x hx hp;omega
 ·exact Int.le_refl _
structure CellOK(c:Ky×Vl):Prop where
 ne:c.1≠[]
 key:c.1.length≤16
 val:c.2.2.length≤32
 has:c.2.1=true∨c.2.2=[]
structure PgP where
 lsn:Nat
 cells:Cl
def pg0:PgP:=⟨0,[]⟩
structure PgP.ok(p:PgP):Prop where
 lsn:p.lsn≤1099511627776
 len:p.cells.length≤4
 ris:RisC p.cells
 may:∀c∈p.cells,CellOK c
theorem pg0_ok:pg0.ok:=⟨by decide,by decide,List.Pairwise.nil,fun _ h=>by cases h⟩
def cellB(c:Ky×Vl):Bs:=textB c.1++(flagB c.2.1++(if c.2.1 then textB c.2.2 else []))
def PgP.enc(p:PgP):Bs:=shortB p.lsn++(shortB p.cells.length++p.cells.flatMap cellB)
def payB(turn:Nat)(p:PgP):Bs:=shortB turn++p.enc
theorem shortB_1{n:Nat}(h:n<128):(shortB n).length=1:=by rw[shortB_small h];rfl
theorem shortB_6{n:Nat}(h:n≤1099511627776):(shortB n).length≤6:=shortB_len_le (k:=5) (by omega)
theorem cellB_len{c:Ky×Vl}(h:CellOK c):(cellB c).length≤51:=by
 have h1:=h.key;have h2:=h.val;have h3:=shortB_1 (n:=c.1.length) (by omega)
 have h4:=shortB_1 (n:=c.2.2.length) (by omega)
 unfold cellB textB flagB;split<;>simp<;>omega
theorem cells_len:∀(L:Cl),(∀c∈L,CellOK c)→(L.flatMap cellB).length≤51 * L.length
 | [],_=>by simp
 | c::L,h=>by
   have h1:=cells_len L fun c hc=>h c (List.mem_cons_of_mem _ hc)
   have h2:=cellB_len (h c (List.mem_cons_self ..));rw[List.flatMap_cons,qla,List.length_cons];omega
theorem PgP.enc_len{p:PgP}(h:p.ok):p.enc.length≤216:=by
 have h1:=cells_len p.cells h.may;have h2:=h.len;have h3:=shortB_6 h.lsn;have h4:=shortB_1 (n:=p.cells.length) (by omega)
 unfold PgP.enc;simp only[qla];omega
theorem payB_len{t:Nat}{p:PgP}(ht:t≤1099511627776)(h:p.ok):(payB t p).length≤222:=by
 have h1:=PgP.enc_len h;have h3:=shortB_6 ht;unfold payB;simp only[qla];omega
theorem cell_key{c:Ky×Vl}(h:CellOK c)(r:Bs):textR 16 (cellB c++r,0)=(c.1,(flagB c.2.1++((if c.2.1 then textB c.2.2 else [])++r),0)):=by
 unfold cellB;rw[qaa,qaa];exact textR_text h.key (by omega) _
theorem cell_val{c:Ky×Vl}(h:CellOK c)(hh:c.2.1=true)(r:Bs):textR 32 ((if c.2.1 then textB c.2.2 else [])++r,0)=(c.2.2,(r,0)):=by
 rw[if_pos hh];exact textR_text h.val (by omega) _
theorem CellOK.no{c:Ky×Vl}(h:CellOK c)(hh:c.2.1=false):c.2.2=[]:=by
 rcases h.has with e | e
 ·rw[hh]at e;cases e
 ·exact e
def restB(L:Cl)(k:Nat)(r:Bs):Bs:=(L.drop k).flatMap cellB++r
theorem restB_step{L:Cl}{k:Nat}{c:Ky×Vl}(h:L[k]? =some c)(r:Bs):restB L k r=cellB c++restB L (k+1) r:=by
 obtain⟨hk,e⟩:=qei.1 h;unfold restB;rw[List.drop_eq_getElem_cons hk,e,List.flatMap_cons,qaa]
theorem PgP.enc_rest(p:PgP)(r:Bs):p.enc++r=shortB p.lsn++(shortB p.cells.length++restB p.cells 0 r):=by
 unfold PgP.enc restB;rw[List.drop_zero];simp only[qaa]
theorem PgP.read_lsn{p:PgP}(h:p.ok)(r:Bs):numR 1099511627776 (p.enc++r,0)=(p.lsn,(shortB p.cells.length++restB p.cells 0 r,0)):=by
 rw[PgP.enc_rest];exact numR_short h.lsn (by omega) _
theorem PgP.read_len{p:PgP}(h:p.ok)(r:Bs):numR 4 (shortB p.cells.length++restB p.cells 0 r,0)=(p.cells.length,(restB p.cells 0 r,0)):=
 numR_short h.len (by omega) _
def PgP.set(p:PgP)(lsn:Nat)(k:Ky)(v:Vl):PgP:=⟨lsn,setC p.cells k v⟩
theorem PgP.set_ok{p:PgP}(h:p.ok){lsn:Nat}{k:Ky}{v:Vl}(hl:lsn≤1099511627776)(hk:CellOK (k,v))(hr:roomC 4 p.cells k):(p.set lsn k v).ok:=
 ⟨hl,setC_room v h.ris h.len hr,setC_ris k v h.ris,fun c hc=>by
  rcases setC_mem k v p.cells c hc with rfl | hc
  ·exact hk
  ·exact h.may c hc⟩
end Go.Proofs.YtdfccegeihfdpaaGreatDoor
