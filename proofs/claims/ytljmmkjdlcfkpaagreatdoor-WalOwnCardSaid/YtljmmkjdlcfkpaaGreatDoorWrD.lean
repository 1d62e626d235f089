/-
  Layer 7: a coder that reads: lists of rows, dirty pages, deeds; a record that was read.
-/
import Derived.Test.YtljmmkjdlcfkpaaGreatDoorWrC
namespace Go.Proofs.YtljmmkjdlcfkpaaGreatDoor
open Go Go.RowKit

theorem rows_r {R g t off B : Nat} {rest : Bs} {w : World} {cs : Array Value} {L : List RowP} (h : RAt w R (listB rowB L ++ rest, 0)) (hl : (listB rowB L ++ rest).length ≤ 1000000) (hb : Blk w g t cs) (ht : t ≠ 5) (hg : g ≠ R) {A0 : Option Addr} {n0 c0 : Nat} (hc : cs[off]? = some (.slice A0 n0 c0)) (hn : L.length ≤ 256) (hB0 : B ≤ w.heap.size) (hRB : R < B) (hgd : ∀ x ∈ L, x.readable) :
    Calls Tryz.prog 119 #[cR R, .pointer (some ⟨g, off, none⟩), .func (.func 120) #[cR R] #[]] w (EachP R g t 105 8 off cs RowW.cells (fun q => q.p) (rowOk B) L rest w) := by
  refine eachR_r h hl hb ht hg hc hn (fun _ => rfl) (still_row hRB) 120 #[cR R] #[] cf_row (fun x => #[cR R, x]) (fun _ => rfl) ?_
  intro i x V w' cs' rest' hx hu hV hrd hl' hb' hz
  have hlt := h.lt
  have hs := hu.size
  exact row_r (off := i * 8) hrd hl' hb' (by decide) (by decide) (by omega) (by omega) hRB (hgd x (List.mem_of_getElem? hx)) hz
theorem dirs_r {R g t off bx : Nat} {rest : Bs} {w : World} {cs : Array Value} {L : List (Int × Int)} (h : RAt w R (listB dirB L ++ rest, 0)) (hl : (listB dirB L ++ rest).length ≤ 1000000) (hB : Blk w bx 136 #[.pointer none, .pointer (some ⟨R, 0, none⟩)]) (hbR : bx ≠ R) (hbg : bx ≠ g) (hb : Blk w g t cs) (ht : t ≠ 5) (hg : g ≠ R) {A0 : Option Addr} {n0 c0 : Nat} (hc : cs[off]? = some (.slice A0 n0 c0)) (hn : L.length ≤ 256) (hgd : ∀ x ∈ L, ∀ n ∈ ([x.1, x.2] : List Int), 0 ≤ n ∧ n ≤ 1099511627776) :
    Calls Tryz.prog 121 #[cR R, .pointer (some ⟨g, off, none⟩), .func (.func 122) #[] #[.pointer (some ⟨bx, 0, none⟩)]] w (ListP R g t 154 2 off cs dirC L rest w) := by
  have hlt := h.lt
  have hBl := hB.lt
  have hit : ItemR R g 154 2 zD w L dirB dirC id (fun _ _ => True) 122 (fun x => #[x, .pointer (some ⟨bx, 0, none⟩)]) := by
    intro i x V w' cs' rest' hx hu hV hrd hl' hb' hz
    refine (dirty_r (off := i * 2) hrd hl' (hB.upd hu (fun e => by rcases e with e | e <;> omega)) hbR (by omega) hb' (by decide) (by omega) (hgd x (List.mem_of_getElem? hx)) (v0 := 0) (v1 := 0) (hz 0 (by omega)) (hz 1 (by omega))).mono ?_
    intro e w'' hP
    exact ⟨hP.1, x, rfl, trivial, RdS.of (Upd.refl _ _) hP⟩
  exact (eachD_r h hl hb ht hg hc hn (fun _ => rfl) (still_true R 154) 122 #[] #[.pointer (some ⟨bx, 0, none⟩)] cf_fields1 _ (fun _ => rfl) hit).mono fun e w' hP => hP.list
theorem dees_r {R g t off bx B : Nat} {rest : Bs} {w : World} {cs : Array Value} {L : List (Int × List Int)} (h : RAt w R (listB deeB L ++ rest, 0)) (hl : (listB deeB L ++ rest).length ≤ 1000000) (hB : Blk w bx 136 #[.pointer none, .pointer (some ⟨R, 0, none⟩)]) (hbR : bx ≠ R) (hbg : bx ≠ g) (hb : Blk w g t cs) (ht : t ≠ 5) (hg : g ≠ R) {A0 : Option Addr} {n0 c0 : Nat} (hc : cs[off]? = some (.slice A0 n0 c0)) (hn : L.length ≤ 256) (hB0 : B ≤ w.heap.size) (hRB : R < B) (hgd : ∀ x ∈ L, (0 ≤ x.1 ∧ x.1 ≤ 1099511627776) ∧ x.2.length ≤ 256 ∧ ∀ n ∈ x.2, 0 ≤ n ∧ n ≤ 1099511627776) :
    Calls Tryz.prog 123 #[cR R, .pointer (some ⟨g, off, none⟩), .func (.func 124) #[] #[.pointer (some ⟨bx, 0, none⟩)]] w (EachP R g t 107 2 off cs DeedV.cells (fun q => q.p) (deedOk B) L rest w) := by
  have hlt := h.lt
  have hBl := hB.lt
  refine eachE_r h hl hb ht hg hc hn (fun _ => rfl) (still_deed hRB) 124 #[] #[.pointer (some ⟨bx, 0, none⟩)] cf_fields2 (fun x => #[x, .pointer (some ⟨bx, 0, none⟩)]) (fun _ => rfl) ?_
  intro i x V w' cs' rest' hx hu hV hrd hl' hb' hz
  have hs := hu.size
  have hd := hgd x (List.mem_of_getElem? hx)
  exact deed_r (off := i * 2) hrd hl' (hB.upd hu (fun e => by rcases e with e | e <;> omega)) hbR (by omega) hb' (by decide) (by omega) (by omega) hd.1 hd.2.1 hd.2.2 (v0 := 0) (hz 0 (by omega)) (hz 1 (by omega))

/-! ### a record's lists in memory that was made since B -/
def RowsN (B : Nat) (w : World) (s : SlT) (L : List RowP) : Prop := ∃ rs : List RowW, OwnR 105 RowW.cells 8 B w (slV s) rs ∧ rs.map (fun q => q.p) = L ∧ ∀ q ∈ rs, rowOk B w q
def DeesN (B : Nat) (w : World) (s : SlT) (L : List (Int × List Int)) : Prop := ∃ ds : List DeedV, OwnR 107 DeedV.cells 2 B w (slV s) ds ∧ ds.map (fun q => q.p) = L ∧ ∀ q ∈ ds, deedOk B w q
theorem RowsN.keepR {B R X : Nat} {w w' : World} {s : SlT} {L : List RowP} {cs : Array Value} (h : RowsN B w s L) (hR : R < B) (hb : Blk w X 38 cs) (hu : Upd (RdF R X) w w') : RowsN B w' s L := by
  obtain ⟨rs, h1, h2, h3⟩ := h
  exact ⟨rs, h1.keepR hR hb (by decide) hu, h2, fun q hq => ⟨(h3 q hq).1.keepR hR hb (by decide) hu, (h3 q hq).2.keepR hR hb (by decide) hu⟩⟩
theorem DeesN.keepR {B R X : Nat} {w w' : World} {s : SlT} {L : List (Int × List Int)} {cs : Array Value} (h : DeesN B w s L) (hR : R < B) (hb : Blk w X 38 cs) (hu : Upd (RdF R X) w w') : DeesN B w' s L := by
  obtain ⟨ds, h1, h2, h3⟩ := h
  exact ⟨ds, h1.keepR hR hb (by decide) hu, h2, fun q hq => OwnR.keepR (h3 q hq) hR hb (by decide) hu⟩
structure RecN (B : Nat) (w : World) (x : RecP) (s : Sls) : Prop where
  mem : OwnR 3 intC 1 B w (slV s.mem) x.mem
  loc : OwnR 103 lockC 2 B w (slV s.loc) x.loc
  row : RowsN B w s.row x.row
  dir : OwnR 154 dirC 2 B w (slV s.dir) x.dir
  dee : DeesN B w s.dee x.dee
  pas : OwnR 3 intC 1 B w (slV s.pas) x.pas
theorem RecN.upd {B : Nat} {F : Nat → Prop} {w w' : World} {x : RecP} {s : Sls} (h : RecN B w x s) (hu : Upd F w w') (hF : ∀ k, B ≤ k → k < w.heap.size → ¬ F k) : RecN B w' x s := by
  have go : ∀ {TE sz : Nat} {α : Type} {cells : α → List Value} {v : Value} {L : List α}, OwnR TE cells sz B w v L → OwnR TE cells sz B w' v L := fun h => h.upd hu fun k hk => hF k (h.new k hk) (h.lt hk)
  obtain ⟨rs, a1, a2, a3⟩ := h.row
  obtain ⟨ds, b1, b2, b3⟩ := h.dee
  exact ⟨go h.mem, go h.loc, ⟨rs, go a1, a2, fun q hq => ⟨go (a3 q hq).1, go (a3 q hq).2⟩⟩, go h.dir, ⟨ds, go b1, b2, fun q hq => go (b3 q hq)⟩, go h.pas⟩
theorem RecN.recE {B : Nat} {w : World} {x : RecP} {s : Sls} (h : RecN B w x s) : RecE w x s := by
  obtain ⟨rs, a1, a2, a3⟩ := h.row
  obtain ⟨ds, b1, b2, b3⟩ := h.dee
  exact ⟨h.mem.els, h.loc.els, ⟨rs, a1.els, a2, fun q hq => ⟨(a3 q hq).1.els, (a3 q hq).2.els⟩⟩, h.dir.els, ⟨ds, b1.els, b2, fun q hq => (b3 q hq).els⟩, h.pas.els⟩
theorem nilN {TE sz : Nat} {α : Type} (cells : α → List Value) (B : Nat) (w : World) : OwnR TE cells sz B w (slV (none, 0, 0)) [] := OwnR.nil _ _ _ _ _
theorem rowsN_nil (B : Nat) (w : World) : RowsN B w (none, 0, 0) [] := ⟨[], nilN _ _ _, rfl, fun q hq => by cases hq⟩
theorem deesN_nil (B : Nat) (w : World) : DeesN B w (none, 0, 0) [] := ⟨[], nilN _ _ _, rfl, fun q hq => by cases hq⟩
/-- A record's fields were read. -/
def FldP (R X B : Nat) (x : RecP) (rest : Bs) (w : World) (e : Ending) (w' : World) : Prop := e = .returned (.tuple #[]) ∧ ∃ s : Sls, RecN B w' x s ∧ RdS R X 38 rest (x.rv s).cells.toArray w w'
/-- What is there of a record ahead of its fields. -/
def zeroP (k : Int) : RecP := ⟨k, 0, 0, 0, [], false, [], false, [], 0, [], [], [], [], [], []⟩
end Go.Proofs.YtljmmkjdlcfkpaaGreatDoor
