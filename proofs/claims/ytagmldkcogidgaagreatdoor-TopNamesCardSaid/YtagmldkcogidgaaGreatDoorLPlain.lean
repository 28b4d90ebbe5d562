/- The freelist as plain functions: how numbers stand in pages. -/
/- The freelist as plain functions: what a body says; what is parsed has that one body; a body says what it was made of. -/

namespace Go.Proofs.Lip

def four (n : Nat) : List UInt8 := [UInt8.ofNat (n / 16777216), UInt8.ofNat (n / 65536), UInt8.ofNat (n / 256), UInt8.ofNat n]
def two (n : Nat) : List UInt8 := [UInt8.ofNat (n / 256), UInt8.ofNat n]
def rise : Nat → List Nat → Bool
  | _, [] => true
  | last, n :: l => decide (last < n) && rise n l
def lpart (l : List Nat) (i : Nat) : List Nat := (l.drop (123 * i)).take 123
def body (next : Nat) (l : List Nat) : List UInt8 := four next ++ two l.length ++ l.flatMap four
def good (numbers pages : List Nat) : Bool := rise 1 numbers && decide (numbers.length ≤ 123 * pages.length) && pages.all fun p => decide (2 ≤ p)
def bodyAt (numbers pages : List Nat) (i : Nat) : List UInt8 := body (pages.getD (i + 1) 0) (lpart numbers i)
def bodies (numbers pages : List Nat) (k : Nat) : List (List UInt8) := (List.range k).map (bodyAt numbers pages)
theorem bodies_succ (numbers pages : List Nat) (k : Nat) : bodies numbers pages (k + 1) = bodies numbers pages k ++ [bodyAt numbers pages k] := by simp [bodies, List.range_succ]
end Go.Proofs.Lip
namespace Go.Proofs.Lip

def get4 (l : List UInt8) (i : Nat) : Nat := 16777216 * (l.getD i 0).toNat + 65536 * (l.getD (i + 1) 0).toNat + 256 * (l.getD (i + 2) 0).toNat + (l.getD (i + 3) 0).toNat
def get2 (l : List UInt8) (i : Nat) : Nat := 256 * (l.getD i 0).toNat + (l.getD (i + 1) 0).toNat
def pnext (l : List UInt8) : Nat := get4 l 0
def pn (l : List UInt8) : Nat := get2 l 4
def pnum (l : List UInt8) (k : Nat) : List Nat := (List.range k).map fun i => get4 l (6 + 4 * i)
def pgood (l : List UInt8) : Bool := decide (6 ≤ l.length) && decide (pnext l ≠ 1) && decide (pn l ≤ 123) && decide (l.length = 6 + 4 * pn l) && rise 1 (pnum l (pn l))
theorem pnum_succ (l : List UInt8) (k : Nat) : pnum l (k + 1) = pnum l k ++ [get4 l (6 + 4 * k)] := by simp [pnum, List.range_succ]

theorem get4_lt (l : List UInt8) (i : Nat) : get4 l i < 4294967296 := by
  have h1 := (l.getD i 0).toNat_lt
  have h2 := (l.getD (i + 1) 0).toNat_lt
  have h3 := (l.getD (i + 2) 0).toNat_lt
  have h4 := (l.getD (i + 3) 0).toNat_lt
  unfold get4; omega
theorem get2_lt (l : List UInt8) (i : Nat) : get2 l i < 65536 := by
  have h1 := (l.getD i 0).toNat_lt
  have h2 := (l.getD (i + 1) 0).toNat_lt
  unfold get2; omega

theorem of_mod {n : Nat} {a : UInt8} (h : n % 256 = a.toNat) : UInt8.ofNat n = a := UInt8.toNat_inj.1 (by rw [UInt8.toNat_ofNat']; exact h)
theorem four_get (a b c d : UInt8) (t : List UInt8) : four (get4 (a :: b :: c :: d :: t) 0) = [a, b, c, d] := by
  have ha := a.toNat_lt
  have hb := b.toNat_lt
  have hc := c.toNat_lt
  have hd := d.toNat_lt
  simp only [four, get4, List.getD_cons_zero, List.getD_cons_succ, Nat.zero_add]
  rw [of_mod (a := a) (by omega), of_mod (a := b) (by omega), of_mod (a := c) (by omega), of_mod (a := d) (by omega)]
theorem two_get (a b : UInt8) : two (256 * a.toNat + b.toNat) = [a, b] := by
  have ha := a.toNat_lt
  have hb := b.toNat_lt
  simp only [two]
  rw [of_mod (a := a) (by omega), of_mod (a := b) (by omega)]
theorem get4_skip4 (a b c d : UInt8) (t : List UInt8) (i : Nat) : get4 (a :: b :: c :: d :: t) (4 * (i + 1)) = get4 t (4 * i) := by
  have e : ∀ k, (a :: b :: c :: d :: t).getD (4 * (i + 1) + k) 0 = t.getD (4 * i + k) 0 := fun k => by
    rw [show 4 * (i + 1) + k = (4 * i + k) + 1 + 1 + 1 + 1 by omega]; rfl
  have e0 := e 0
  simp only [Nat.add_zero] at e0
  simp only [get4, e, e0]
theorem get4_skip6 (a b c d e f : UInt8) (t : List UInt8) (i : Nat) : get4 (a :: b :: c :: d :: e :: f :: t) (6 + 4 * i) = get4 t (4 * i) := by
  have h : ∀ k, (a :: b :: c :: d :: e :: f :: t).getD (6 + 4 * i + k) 0 = t.getD (4 * i + k) 0 := fun k => by
    rw [show 6 + 4 * i + k = (4 * i + k) + 1 + 1 + 1 + 1 + 1 + 1 by omega]; rfl
  have e0 := h 0
  simp only [Nat.add_zero] at e0
  simp only [get4, h, e0]
theorem flat_get (n : Nat) : ∀ t : List UInt8, t.length = 4 * n → ((List.range n).map fun i => get4 t (4 * i)).flatMap four = t := by
  induction n with
  | zero => intro t h; obtain rfl := List.eq_nil_of_length_eq_zero (l := t) (by omega); rfl
  | succ n ih =>
    intro t h
    match t, h with
    | a :: b :: c :: d :: t, h =>
      rw [List.range_succ_eq_map, List.map_cons, List.flatMap_cons, List.map_map, Nat.mul_zero, four_get]
      have : ((List.range n).map ((fun i => get4 (a :: b :: c :: d :: t) (4 * i)) ∘ Nat.succ)) = (List.range n).map fun i => get4 t (4 * i) :=
        List.map_congr_left fun i _ => get4_skip4 a b c d t i
      rw [this, ih t (by simp at h; omega)]
      rfl

/-- what is parsed has that one body -/
theorem body_parse {l : List UInt8} (h : pgood l = true) : body (pnext l) (pnum l (pn l)) = l := by
  simp only [pgood, Bool.and_eq_true, decide_eq_true_eq] at h
  obtain ⟨⟨⟨⟨h6, _⟩, _⟩, hl⟩, _⟩ := h
  match l, h6, hl with
  | a :: b :: c :: d :: e :: f :: t, _, hl =>
    have ht : t.length = 4 * pn (a :: b :: c :: d :: e :: f :: t) := by simp at hl; omega
    have h1 : pnum (a :: b :: c :: d :: e :: f :: t) (pn (a :: b :: c :: d :: e :: f :: t)) = (List.range (pn (a :: b :: c :: d :: e :: f :: t))).map fun i => get4 t (4 * i) :=
      List.map_congr_left fun i _ => get4_skip6 a b c d e f t i
    have h2 : four (pnext (a :: b :: c :: d :: e :: f :: t)) = [a, b, c, d] := four_get a b c d _
    have h3 : two (pn (a :: b :: c :: d :: e :: f :: t)) = [e, f] := two_get e f
    rw [body, h1, h2, List.length_map, List.length_range, h3, flat_get _ t ht]
    rfl

theorem get4_four (n : Nat) (hn : n < 4294967296) (t : List UInt8) : get4 (four n ++ t) 0 = n := by
  simp only [four, get4, List.cons_append, List.nil_append, List.getD_cons_zero, List.getD_cons_succ, Nat.zero_add, UInt8.toNat_ofNat']
  omega
theorem get4_flat (ns : List Nat) (h : ∀ n ∈ ns, n < 4294967296) : ((List.range ns.length).map fun i => get4 (ns.flatMap four) (4 * i)) = ns := by
  induction ns with
  | nil => rfl
  | cons n ns ih =>
    have h0 := get4_four n (h n (by simp)) (ns.flatMap four)
    rw [List.length_cons, List.range_succ_eq_map, List.map_cons, List.map_map, List.flatMap_cons, Nat.mul_zero, h0]
    have : ((List.range ns.length).map ((fun i => get4 (four n ++ ns.flatMap four) (4 * i)) ∘ Nat.succ)) = (List.range ns.length).map fun i => get4 (ns.flatMap four) (4 * i) :=
      List.map_congr_left fun i _ => get4_skip4 _ _ _ _ _ i
    rw [this, ih fun m hm => h m (by simp [hm])]

/-- a body says what it was made of -/
theorem parse_body (next : Nat) (ns : List Nat) (hx : next < 4294967296) (h : ∀ n ∈ ns, n < 4294967296) (hl : ns.length ≤ 123) :
    pnext (body next ns) = next ∧ pn (body next ns) = ns.length ∧ pnum (body next ns) ns.length = ns ∧ (body next ns).length = 6 + 4 * ns.length := by
  refine ⟨?_, ?_, ?_, ?_⟩
  · rw [body, List.append_assoc]; exact get4_four next hx _
  · simp only [pn, get2, body, four, two, List.cons_append, List.nil_append, List.getD_cons_zero, List.getD_cons_succ, UInt8.toNat_ofNat']
    omega
  · have : pnum (body next ns) ns.length = (List.range ns.length).map fun i => get4 (ns.flatMap four) (4 * i) :=
      List.map_congr_left fun i _ => get4_skip6 _ _ _ _ _ _ (ns.flatMap four) i
    rw [this, get4_flat ns h]
  · have : ∀ l : List Nat, (l.flatMap four).length = 4 * l.length := fun l => by
      induction l with
      | nil => rfl
      | cons x l ih => simp [four, ih]; omega
    rw [body, List.length_append, List.length_append, this]
    simp [four, two]
theorem pgood_body (next : Nat) (ns : List Nat) (hx : next < 4294967296) (h : ∀ n ∈ ns, n < 4294967296) (hl : ns.length ≤ 123) (h1 : next ≠ 1) (hr : rise 1 ns = true) : pgood (body next ns) = true := by
  obtain ⟨e1, e2, e3, e4⟩ := parse_body next ns hx h hl
  simp only [pgood, Bool.and_eq_true, decide_eq_true_eq]
  exact ⟨⟨⟨⟨by omega, by rw [e1]; exact h1⟩, by rw [e2]; exact hl⟩, by rw [e4, e2]⟩, by rw [e2, e3]; exact hr⟩
end Go.Proofs.Lip
