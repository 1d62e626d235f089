/-
  Layer 7: a record that may be is small; what a record is encoded to.
-/
import Derived.Test.YtljmmkjdlcfkpaaGreatDoorWqH
namespace Go.Proofs.YtljmmkjdlcfkpaaGreatDoor
open Go Go.RowKit

/-! ### what may be is small -/
theorem rises_may {α : Type} {may : α → Bool} {less : α → α → Bool} : ∀ {p : Option α} {l : List α}, risesP may less p l = true → ∀ x ∈ l, may x = true := by
  intro p l
  induction l generalizing p with
  | nil => intro _ x hx; cases hx
  | cons a l ih =>
    intro h x hx
    simp only [risesP, Bool.and_eq_true] at h
    rcases List.mem_cons.1 hx with rfl | hx
    · exact h.1.1
    · exact ih h.2 x hx
theorem rising_parts {α : Type} {most : Nat} {may : α → Bool} {less : α → α → Bool} {l : List α} (h : risingP most may less l = true) : l.length ≤ most ∧ ∀ x ∈ l, may x = true := by
  unfold risingP at h
  rw [Bool.and_eq_true, decide_eq_true_eq] at h
  exact ⟨h.1, rises_may h.2⟩
theorem seqP_parts {n l : Int} (h : seqP n l = true) : l ≤ n ∧ n ≤ 1099511627776 := by
  unfold seqP at h
  rwa [Bool.and_eq_true, decide_eq_true_eq, decide_eq_true_eq] at h
theorem nodeP_parts {n : Int} (h : nodeP n = true) : 0 ≤ n ∧ n < 8 := by
  unfold nodeP at h
  rwa [Bool.and_eq_true, decide_eq_true_eq, decide_eq_true_eq] at h
theorem keyP_parts {s : Bs} (h : keyP s = true) : s ≠ [] ∧ s.length ≤ 16 := by
  unfold keyP at h
  rwa [Bool.and_eq_true, decide_eq_true_eq, decide_eq_true_eq] at h
theorem valueP_parts {b : Bool} {s : Bs} (h : valueP b s = true) : s.length ≤ 32 ∧ (b = true ∨ s = []) := by
  unfold valueP at h
  rwa [Bool.and_eq_true, decide_eq_true_eq, Bool.or_eq_true, decide_eq_true_eq] at h
theorem numZ_six {n : Int} (h : n ≤ 1099511627776) : (numZ n).length ≤ 6 := shortB_len_le (k := 5) (by omega)
theorem numZ_one {n : Int} (h : n < 128) : (numZ n).length ≤ 1 := shortB_len_le (k := 0) (by omega)
theorem numZ_two {n : Int} (h : n < 16384) : (numZ n).length ≤ 2 := shortB_len_le (k := 1) (by omega)
theorem flat_bound {α : Type} (f : α → Bs) (c : Nat) : ∀ (l : List α), (∀ x ∈ l, (f x).length ≤ c) → (l.flatMap f).length ≤ l.length * c := by
  intro l
  induction l with
  | nil => intro _; simp
  | cons a l ih =>
    intro h
    rw [List.flatMap_cons, List.length_append, List.length_cons, Nat.succ_mul]
    have h1 := h a (List.mem_cons_self)
    have h2 := ih fun x hx => h x (List.mem_cons_of_mem _ hx)
    omega
theorem listB_bound {α : Type} (f : α → Bs) (c k m : Nat) (l : List α) (hl : l.length ≤ m) (hk : ∀ n : Int, n ≤ m → (numZ n).length ≤ k) (h : ∀ x ∈ l, (f x).length ≤ c) : (listB f l).length ≤ k + m * c := by
  unfold listB
  rw [List.length_append]
  have h1 := hk l.length (by omega)
  have h2 := flat_bound f c l h
  have h3 : l.length * c ≤ m * c := Nat.mul_le_mul_right _ hl
  omega
theorem members_parts {l : List Int} (h : membersP l = true) : l.length ≤ 8 ∧ (∀ n ∈ l, Num63 n) ∧ (listB numZ l).length ≤ 9 := by
  obtain ⟨h1, h2⟩ := rising_parts h
  refine ⟨h1, fun n hn => ?_, ?_⟩
  · have := nodeP_parts (h2 n hn)
    exact ⟨by omega, by omega⟩
  · have := listB_bound numZ 1 1 8 l h1 (fun n hn => numZ_one (by omega)) (fun n hn => numZ_one (by have := nodeP_parts (h2 n hn); omega))
    omega
theorem locks_parts {l : List LockP} (h : locksP l = true) : l.length ≤ 64 ∧ (∀ x ∈ l, x.1.length ≤ 16) ∧ (listB lockB l).length ≤ 1153 := by
  obtain ⟨h1, h2⟩ := rising_parts h
  refine ⟨h1, fun x hx => (keyP_parts (h2 x hx)).2, ?_⟩
  have := listB_bound lockB 18 1 64 l h1 (fun n hn => numZ_one (by omega)) (fun x hx => by
    have h3 := (keyP_parts (h2 x hx)).2
    unfold lockB textB flagB
    have h4 : (shortB x.1.length).length ≤ 1 := shortB_len_le (k := 0) (by omega)
    simp only [List.length_append, List.length_cons, List.length_nil]
    omega)
  omega
theorem row_parts {x : RowP} (h : x.may = true) : x.good ∧ (rowB x).length ≤ 1188 := by
  unfold RowP.may at h
  simp only [Bool.and_eq_true, decide_eq_true_eq] at h
  obtain ⟨h0, h1, h2, h3, h4, h5, h6, h7, h8⟩ := h
  have h0 := seqP_parts h0
  have h3 := seqP_parts h3
  have h4 := seqP_parts h4
  have h5 := seqP_parts h5
  have h6 := nodeP_parts h6
  have h7 := members_parts h7
  have h8 := locks_parts h8
  refine ⟨⟨⟨by omega, by omega⟩, ⟨by omega, by omega⟩, ⟨by omega, by omega⟩, ⟨by omega, by omega⟩, ⟨by omega, by omega⟩, ⟨by omega, by omega⟩, by omega, h7.2.1, by omega, fun y hy => by have := h8.2.1 y hy; omega⟩, ?_⟩
  unfold rowB
  have b0 := numZ_six h0.2
  have b1 := numZ_one (n := x.state) (by omega)
  have b3 := numZ_six h3.2
  have b4 := numZ_six h4.2
  have b5 := numZ_six h5.2
  have b6 := numZ_one (n := x.coord) (by omega)
  have b7 := h7.2.2
  have b8 := h8.2.2
  simp only [List.length_append]
  omega
theorem num63_zero : Num63 0 := ⟨by omega, by omega⟩
theorem num63_seq {n l : Int} (hl : 0 ≤ l) (h : seqP n l = true) : Num63 n := by
  have := seqP_parts h
  exact ⟨by omega, by omega⟩
theorem spare_none {x : RecP} (h : x.spare = false) : ((wantsP x.kind).prev = true → x.prev = 0) ∧ ((wantsP x.kind).next = true → x.next = 0) ∧ ((wantsP x.kind).key = true → x.key = []) ∧ ((wantsP x.kind).old = true → x.oh = false ∧ x.od = []) ∧ ((wantsP x.kind).new = true → x.nh = false ∧ x.nd = []) ∧
    ((wantsP x.kind).coord = true → x.coord = 0) ∧ ((wantsP x.kind).mem = true → x.mem = []) ∧ ((wantsP x.kind).loc = true → x.loc = []) ∧ ((wantsP x.kind).lists = true → x.row = [] ∧ x.dir = [] ∧ x.dee = [] ∧ x.pas = []) := by
  unfold RecP.spare at h
  simp only [Bool.or_eq_false_iff, Bool.and_eq_false_iff, decide_eq_false_iff_not, Decidable.not_not] at h
  obtain ⟨h1, h2, h3, h4, h5, h6, h7, h8, h9⟩ := h
  have g : ∀ {b : Bool} {p : Prop}, (b = false ∨ p) → b = true → p := fun h hb => by rcases h with h | h; rw [h] at hb; cases hb; exact h
  exact ⟨g h1, g h2, g h3, g h4, g h5, g h6, g h7, g h8, g h9⟩
theorem RecP.good_of_may {x : RecP} (h : x.may = true) : x.good := by
  unfold RecP.may at h
  by_cases hks : kindP x.kind = false ∨ x.spare = true
  · rw [if_pos hks] at h; cases h
  rw [if_neg hks] at h
  have hk : kindP x.kind = true := by
    cases e : kindP x.kind
    · exact absurd (.inl e) hks
    · rfl
  have hs : x.spare = false := by
    cases e : x.spare
    · rfl
    · exact absurd (.inr e) hks
  clear hks
  obtain ⟨s1, s2, s3, s4, s5, s6, s7, s8, s9⟩ := spare_none hs
  unfold kindP at hk
  rw [Bool.and_eq_true, decide_eq_true_eq, decide_eq_true_eq] at hk
  have hkind : Num63 x.kind := ⟨by omega, by omega⟩
  have bk : (numZ x.kind).length ≤ 1 := numZ_one (by omega)
  have nilL : ∀ {α : Type} {l : List α} {P : α → Prop}, l = [] → ∀ y ∈ l, P y := fun e y hy => by rw [e] at hy; cases hy
  have len0 : ∀ {α : Type} {l : List α}, l = [] → l.length = 0 := fun e => by rw [e]; rfl
  by_cases h8 : x.kind = 8
  · rw [if_pos (.inr h8), Bool.and_eq_true, decide_eq_true_eq] at h
    obtain ⟨htx, hch⟩ := h
    rw [h8] at s1 s2 s3 s4 s5 s6 s7 s8 s9
    have w8 : wantsP 8 = ⟨true, true, true, true, true, true, true, true, false⟩ := rfl
    rw [w8] at s1 s2 s3 s4 s5 s6 s7 s8 s9
    replace s1 := s1 rfl
    replace s2 := s2 rfl
    replace s3 := s3 rfl
    replace s4 := s4 rfl
    replace s5 := s5 rfl
    replace s6 := s6 rfl
    replace s7 := s7 rfl
    replace s8 := s8 rfl
    unfold RecP.check at hch
    simp only [Bool.and_eq_true] at hch
    obtain ⟨c1, c2, c3, c4⟩ := hch
    obtain ⟨c1, d1⟩ := rising_parts c1
    obtain ⟨c2, d2⟩ := rising_parts c2
    obtain ⟨c3, d3⟩ := rising_parts c3
    obtain ⟨c4, d4⟩ := rising_parts c4
    have d2' : ∀ d ∈ x.dir, (0 ≤ d.1 ∧ d.1 < 64) ∧ 1 ≤ d.2 ∧ d.2 ≤ 1099511627776 := fun d hd => by
      have := d2 d hd
      unfold dirMay at this
      simp only [Bool.and_eq_true, decide_eq_true_eq] at this
      exact ⟨⟨this.1, this.2.1⟩, seqP_parts this.2.2⟩
    have d3' : ∀ d ∈ x.dee, (1 ≤ d.1 ∧ d.1 ≤ 1099511627776) ∧ d.2.length ≤ 8 ∧ (∀ n ∈ d.2, Num63 n) ∧ (listB numZ d.2).length ≤ 9 := fun d hd => by
      have := d3 d hd
      unfold deeMay at this
      simp only [Bool.and_eq_true] at this
      exact ⟨seqP_parts this.1, members_parts this.2⟩
    refine ⟨hkind, by rw [htx]; exact num63_zero, by rw [s1]; exact num63_zero, by rw [s2]; exact num63_zero, by rw [s6]; exact num63_zero, by rw [s3]; simp, by rw [s4.2]; simp, by rw [s5.2]; simp, by rw [s7]; simp, nilL s7, by rw [s8]; simp, nilL s8, by omega, fun r hr => (row_parts (d1 r hr)).1,
      by omega, fun d hd => by have := d2' d hd; exact ⟨⟨by omega, by omega⟩, ⟨by omega, by omega⟩⟩, by omega, fun d hd => by have := d3' d hd; exact ⟨⟨by omega, by omega⟩, by omega, this.2.2.1⟩, by omega, fun n hn => num63_seq (by omega) (d4 n hn), ?_⟩
    have e1 := listB_bound rowB 1188 1 64 x.row c1 (fun n hn => numZ_one (by omega)) fun r hr => (row_parts (d1 r hr)).2
    have e2 := listB_bound dirB 7 1 64 x.dir c2 (fun n hn => numZ_one (by omega)) fun d hd => by
      have := d2' d hd
      have b0 := numZ_one (n := d.1) (by omega)
      have b1 := numZ_six (n := d.2) (by omega)
      unfold dirB
      rw [List.length_append]
      omega
    have e3 := listB_bound deeB 15 1 64 x.dee c3 (fun n hn => numZ_one (by omega)) fun d hd => by
      have := d3' d hd
      have b0 := numZ_six (n := d.1) (by omega)
      unfold deeB
      rw [List.length_append]
      omega
    have e4 := listB_bound numZ 6 2 256 x.pas c4 (fun n hn => numZ_two (by omega)) fun n hn => numZ_six (seqP_parts (d4 n hn)).2
    unfold RecP.bytes RecP.fieldsB
    rw [h8] at bk ⊢
    simp only [Int.reduceEq, if_false, if_true, or_false, List.length_append]
    omega
  have s9' : x.row = [] ∧ x.dir = [] ∧ x.dee = [] ∧ x.pas = [] := s9 (by unfold wantsP; repeat' split
                                                                         all_goals first | rfl | omega)
  obtain ⟨r1, r2, r3, r4⟩ := s9'
  by_cases h7 : x.kind = 7
  · rw [if_pos (.inl h7), Bool.and_eq_true, decide_eq_true_eq] at h
    obtain ⟨htx, hch⟩ := h
    rw [h7] at s1 s2 s3 s4 s5 s6 s7 s8
    have w7 : wantsP 7 = ⟨true, true, true, true, true, true, true, true, true⟩ := rfl
    rw [w7] at s1 s2 s3 s4 s5 s6 s7 s8
    replace s1 := s1 rfl
    replace s2 := s2 rfl
    replace s3 := s3 rfl
    replace s4 := s4 rfl
    replace s5 := s5 rfl
    replace s6 := s6 rfl
    replace s7 := s7 rfl
    replace s8 := s8 rfl
    refine ⟨hkind, by rw [htx]; exact num63_zero, by rw [s1]; exact num63_zero, by rw [s2]; exact num63_zero, by rw [s6]; exact num63_zero, by rw [s3]; simp, by rw [s4.2]; simp, by rw [s5.2]; simp, by rw [s7]; simp, nilL s7, by rw [s8]; simp, nilL s8, by rw [r1]; simp, nilL r1, by rw [r2]; simp, nilL r2, by rw [r3]; simp, nilL r3, by rw [r4]; simp, nilL r4, ?_⟩
    unfold RecP.bytes RecP.fieldsB
    rw [h7] at bk ⊢
    simp only [Int.reduceEq, if_false, or_false, List.length_append, List.length_nil]
    omega
  rw [if_neg (by omega)] at h
  by_cases h12 : (x.kind = 1 ∨ x.kind = 2) ∧ ¬ (keyP x.key = true ∧ valueP x.oh x.od = true ∧ valueP x.nh x.nd = true)
  · rw [if_pos h12] at h; cases h
  rw [if_neg h12] at h
  simp only [Bool.and_eq_true] at h
  obtain ⟨t1, t2, t3, t4, t5, t6⟩ := h
  have u4 := nodeP_parts t4
  have u5 := members_parts t5
  have u6 := locks_parts t6
  have ht1 := seqP_parts t1
  have ht2 := seqP_parts t2
  have ht3 := seqP_parts t3
  have hkv : x.key.length ≤ 16 ∧ x.od.length ≤ 32 ∧ x.nd.length ≤ 32 := by
    by_cases hh : x.kind = 1 ∨ x.kind = 2
    · have : keyP x.key = true ∧ valueP x.oh x.od = true ∧ valueP x.nh x.nd = true := Decidable.of_not_not fun hn => h12 ⟨hh, hn⟩
      exact ⟨(keyP_parts this.1).2, (valueP_parts this.2.1).1, (valueP_parts this.2.2).1⟩
    · have hw : (wantsP x.kind).key = true ∧ (wantsP x.kind).old = true ∧ (wantsP x.kind).new = true := by
        unfold wantsP
        repeat' split
        all_goals first | exact ⟨rfl, rfl, rfl⟩ | omega
      rw [s3 hw.1, (s4 hw.2.1).2, (s5 hw.2.2).2]
      simp
  refine ⟨hkind, num63_seq (by omega) t1, num63_seq (by omega) t2, num63_seq (by omega) t3, ⟨by omega, by omega⟩, by omega, by omega, by omega, by omega, u5.2.1, by omega, fun y hy => by have := u6.2.1 y hy; omega, by rw [r1]; simp, nilL r1, by rw [r2]; simp, nilL r2, by rw [r3]; simp, nilL r3, by rw [r4]; simp, nilL r4, ?_⟩
  have f1 := numZ_six ht1.2
  have f2 := numZ_six ht2.2
  have f3 := numZ_six ht3.2
  have f4 := numZ_one (n := x.coord) (by omega)
  have f5 := u5.2.2
  have f6 := u6.2.2
  have f7 : ∀ s : Bs, s.length ≤ 32 → (textB s).length ≤ 33 := fun s hs => by
    unfold textB
    have : (shortB s.length).length ≤ 1 := shortB_len_le (k := 0) (by omega)
    rw [List.length_append]
    omega
  have f8 : ∀ (b : Bool) (s : Bs), s.length ≤ 32 → (valB b s).length ≤ 34 := fun b s hs => by
    unfold valB flagB
    have := f7 s hs
    rw [List.length_append]
    split
    · rw [List.length_singleton]; omega
    · simp
  have g1 := f7 x.key (by omega)
  have g2 := f8 x.oh x.od hkv.2.1
  have g3 := f8 x.nh x.nd hkv.2.2
  unfold RecP.bytes RecP.fieldsB
  rw [List.length_append]
  repeat' split
  all_goals first | omega | (simp only [List.length_append]; omega)
theorem enc_ok {w : World} {x : RecP} {s : Sls} (hE : RecE w x s) (hm : x.mild) : EncAt w (x.rv s) x.enc.1 x.enc.2 := by
  intro w' hu
  have he : encB x.may (if x.may = true then x.bytes else []) = x.enc := by
    unfold encB RecP.enc
    cases x.may <;> simp
  have h := encode_walk x.kind x.tx x.prev x.next x.coord x.key x.od x.nd x.oh x.nh s.mem.1 s.loc.1 s.row.1 s.dir.1 s.dee.1 s.pas.1 s.mem.2.1 s.loc.2.1 s.row.2.1 s.dir.2.1 s.dee.2.1 s.pas.2.1 s.mem.2.2 s.loc.2.2 s.row.2.2 s.dir.2.2 s.dee.2.2 s.pas.2.2 w' x.may (if x.may = true then x.bytes else []) (by
    cases hm : x.may with
    | false => simp
    | true =>
      have := (RecP.good_of_may hm).len
      simp only [if_true]
      omega) (fun w2 hu2 => may_ok (hE.up (hu.same hu2)) hm) (fun hmay w2 hu2 => by
    have hg := RecP.good_of_may hmay
    have hk : kindP x.kind = true := by
      unfold RecP.may at hmay
      cases e : kindP x.kind
      · rw [if_pos (.inl e)] at hmay; cases hmay
      · rfl
    rw [if_pos hmay]
    exact bytes_ok x s hk (hE.up (hu.same hu2)) hg)
  rw [he] at h
  exact h
end Go.Proofs.YtljmmkjdlcfkpaaGreatDoor
