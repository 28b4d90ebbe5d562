/- Supers as plain functions: a super is its number q and 27 numbers r; what it is written as, what is read; the laws. -/
import Derived.Test.YtagmldkcogidgaaGreatDoorPagePlain
namespace Go.Proofs.Pgp
set_option maxRecDepth 100000
open Crcp

/-- a super's body -/
def sbody (q : Nat) (r : List Nat) : List UInt8 := (q / 4294967296 :: q % 4294967296 :: r).flatMap four
/-- the numbers of a body, four bytes each -/
def nums : Nat → List UInt8 → List Nat
  | 0, _ => []
  | n + 1, l => num (l.take 4) :: nums n (l.drop 4)
def squ (b : List UInt8) : Nat := num (b.take 4) * 4294967296 + num ((b.drop 4).take 4)
def srs (b : List UInt8) : List Nat := nums 27 (b.drop 8)
def zeros27 : List Nat := List.replicate 27 0
/-- why no super is read from a block at a place (0: one is) -/
def sfault (place : Nat) (b : List UInt8) : Nat :=
  if 1 < place then 1
  else if fault place b ≠ 0 then fault place b
  else if okind b ≠ 1 ∨ (obody b).length ≠ 116 then 2
  else if squ (obody b) % 2 ≠ place then 2
  else 0
def sq (place : Nat) (b : List UInt8) : Nat := if sfault place b = 0 then squ (obody b) else 0
def sr (place : Nat) (b : List UInt8) : List Nat := if sfault place b = 0 then srs (obody b) else zeros27
/-- the page of a super -/
def spage (q : Nat) (r : List Nat) : List UInt8 := pseal (q % 2) 1 (sbody q r)

theorem flat_len (l : List Nat) : (l.flatMap four).length = 4 * l.length := by
  induction l with
  | nil => rfl
  | cons a l ih => rw [List.flatMap_cons, List.length_append, ih, four_len, List.length_cons]; omega
theorem sbody_len (q : Nat) (r : List Nat) (h : r.length = 27) : (sbody q r).length = 116 := by rw [sbody, flat_len]; simp [h]
theorem spage_len (q : Nat) (r : List Nat) (h : r.length = 27) : (spage q r).length = 512 := seal_len _ _ _ (by rw [sbody_len _ _ h]; decide)
theorem nums_len (n : Nat) (l : List UInt8) : (nums n l).length = n := by
  induction n generalizing l with
  | zero => rfl
  | succ n ih => rw [nums, List.length_cons, ih]
theorem nums_flat (l : List Nat) (s : List UInt8) (h : ∀ x ∈ l, x < 4294967296) : nums l.length (l.flatMap four ++ s) = l := by
  induction l generalizing s with
  | nil => rfl
  | cons a l ih =>
    rw [List.length_cons, nums, List.flatMap_cons, List.append_assoc]
    have h1 : (four a ++ (l.flatMap four ++ s)).take 4 = four a := List.take_left' rfl
    have h2 : (four a ++ (l.flatMap four ++ s)).drop 4 = l.flatMap four ++ s := List.drop_left' rfl
    rw [h1, h2, num_four _ (h a (by simp)), ih s (fun x hx => h x (by simp [hx]))]
theorem nums_lt (n : Nat) (l : List UInt8) : ∀ x ∈ nums n l, x < 4294967296 := by
  induction n generalizing l with
  | zero => intro x hx; cases hx
  | succ n ih =>
    intro x hx
    rw [nums, List.mem_cons] at hx
    rcases hx with rfl | hx
    · rcases Nat.lt_or_ge l.length 4 with h | h
      · match l, h with
        | [], _ => decide
        | [a], _ => have := a.toNat_lt; simp [num]; omega
        | [a, b], _ => have := a.toNat_lt; have := b.toNat_lt; simp [num]; omega
        | [a, b, c], _ => have := a.toNat_lt; have := b.toNat_lt; have := c.toNat_lt; simp [num]; omega
      · exact num_lt4 _ (by rw [List.length_take]; omega)
    · exact ih _ x hx
theorem squ_sbody (q : Nat) (r : List Nat) (hq : q < 18446744073709551616) : squ (sbody q r) = q := by
  have h1 : (sbody q r).take 4 = four (q / 4294967296) := List.take_left' rfl
  have h2 : ((sbody q r).drop 4).take 4 = four (q % 4294967296) := by
    have : (sbody q r).drop 4 = four (q % 4294967296) ++ r.flatMap four := List.drop_left' rfl
    rw [this]; exact List.take_left' rfl
  rw [squ, h1, h2, num_four _ (by omega), num_four _ (by omega)]; omega
theorem srs_sbody (q : Nat) (r : List Nat) (h : r.length = 27) (hr : ∀ x ∈ r, x < 4294967296) : srs (sbody q r) = r := by
  have h2 : (sbody q r).drop 8 = r.flatMap four ++ [] := by
    rw [show (8 : Nat) = 4 + 4 from rfl, ← List.drop_drop]
    have : (sbody q r).drop 4 = four (q % 4294967296) ++ r.flatMap four := List.drop_left' rfl
    rw [this, List.append_nil]; exact List.drop_left' rfl
  rw [srs, h2, ← h, nums_flat r [] hr]
/-- a super's page is read as it, at its place alone -/
theorem sfault_page (q : Nat) (r : List Nat) (hq : q < 18446744073709551616) (h : r.length = 27) :
    sfault (q % 2) (spage q r) = 0 ∧ sfault ((q + 1) % 2) (spage q r) = 4 := by
  have hb := sbody_len q r h
  obtain ⟨h1, h2, h3⟩ := open_seal (q % 2) 1 (sbody q r) (by omega) (by omega)
  have hs := squ_sbody q r hq
  constructor
  · unfold sfault
    rw [if_neg (by omega)]
    unfold spage
    rw [h1, h2, h3, hb, hs]
    simp
  · have hm : fault ((q + 1) % 2) (spage q r) = 4 := by
      obtain ⟨e1, e2, e3, _⟩ := seal_parts (q % 2) 1 (sbody q r)
      have hm := more_lt (s := 0) (ptail (q % 2) 1 (sbody q r)) (by decide)
      have hsl := seal_len (q % 2) 1 (sbody q r) (by omega)
      unfold fault spage
      rw [if_neg (by rw [hsl]; decide), e1, num_four _ hm, e2, if_neg (by simp), ← e2, e3, num_four _ (by omega), if_pos (by omega)]
    unfold sfault
    rw [if_neg (by omega), hm, if_pos (by decide)]
theorem sread_page (q : Nat) (r : List Nat) (hq : q < 18446744073709551616) (h : r.length = 27) (hr : ∀ x ∈ r, x < 4294967296) :
    sq (q % 2) (spage q r) = q ∧ sr (q % 2) (spage q r) = r := by
  have hf := (sfault_page q r hq h).1
  obtain ⟨h1, h2, h3⟩ := open_seal (q % 2) 1 (sbody q r) (by omega) (by rw [sbody_len q r h]; decide)
  rw [sq, sr, if_pos hf, if_pos hf, spage, h3]
  exact ⟨squ_sbody q r hq, srs_sbody q r h hr⟩
theorem sq_lt (place : Nat) (b : List UInt8) : sq place b < 18446744073709551616 := by
  unfold sq
  split
  · unfold squ
    have h0 : ∀ l : List UInt8, num (l.take 4) < 4294967296 := fun l => nums_lt 1 l _ (by simp [nums])
    have h1 := h0 (obody b)
    have h2 := h0 ((obody b).drop 4)
    omega
  · decide
theorem sr_ok (place : Nat) (b : List UInt8) : (sr place b).length = 27 ∧ ∀ x ∈ sr place b, x < 4294967296 := by
  unfold sr
  split
  · exact ⟨nums_len _ _, nums_lt _ _⟩
  · exact ⟨by decide, fun x hx => by rw [zeros27] at hx; rw [(List.mem_replicate.1 hx).2]; decide⟩
/-- the first bytes of a super's body: up to the k-th root -/
def sb (q : Nat) (r : List Nat) (k : Nat) : List UInt8 := (q / 4294967296 :: q % 4294967296 :: r.take (3 + 3 * k)).flatMap four
theorem take3 (r : List Nat) (i : Nat) (h : i + 2 < r.length) : r.take (i + 3) = r.take i ++ [r[i], r[i + 1], r[i + 2]] := by
  rw [List.take_add, List.drop_eq_getElem_cons (show i < r.length by omega), List.take_succ_cons, List.drop_eq_getElem_cons (show i + 1 < r.length by omega), List.take_succ_cons, List.drop_eq_getElem_cons (show i + 1 + 1 < r.length by omega), List.take_succ_cons, List.take_zero]
theorem sb_zero (q : Nat) (r : List Nat) (h : r.length = 27) : sb q r 0 = [] ++ four (q / 4294967296) ++ four (q % 4294967296) ++ four r[0] ++ four r[1] ++ four r[2] := by
  have := take3 r 0 (by omega)
  simp only [Nat.zero_add, List.take_zero, List.nil_append] at this
  rw [sb, show 3 + 3 * 0 = 3 from rfl, this]
  simp [List.flatMap_cons]
theorem sb_succ (q : Nat) (r : List Nat) (k : Nat) (h : r.length = 27) (hk : k < 8) : sb q r (k + 1) = sb q r k ++ four (r[3 + 3 * k]'(by omega)) ++ four (r[3 + 3 * k + 1]'(by omega)) ++ four (r[3 + 3 * k + 2]'(by omega)) := by
  have := take3 r (3 + 3 * k) (by omega)
  rw [sb, sb, show 3 + 3 * (k + 1) = 3 + 3 * k + 3 by omega, this]
  simp [List.flatMap_cons, List.flatMap_append]
theorem sb_all (q : Nat) (r : List Nat) (h : r.length = 27) : sb q r 8 = sbody q r := by rw [sb, sbody, List.take_of_length_le (by omega)]
theorem sb_len (q : Nat) (r : List Nat) (k : Nat) (h : r.length = 27) (hk : k ≤ 8) : (sb q r k).length = 20 + 12 * k := by
  rw [sb, flat_len]; simp; omega
/-- the numbers of a super as they stand when the first m of them have been read -/
def rk (l : List UInt8) (m : Nat) : List Nat := nums m (l.drop 8) ++ List.replicate (27 - m) 0
theorem rk_zero (l : List UInt8) : rk l 0 = zeros27 := rfl
theorem rk_len (l : List UInt8) (m : Nat) (h : m ≤ 27) : (rk l m).length = 27 := by rw [rk, List.length_append, nums_len, List.length_replicate]; omega
theorem rk_all (l : List UInt8) : rk l 27 = srs l := by rw [rk, srs]; simp
theorem nums_snoc (n : Nat) (l : List UInt8) : nums (n + 1) l = nums n l ++ [num ((l.drop (4 * n)).take 4)] := by
  induction n generalizing l with
  | zero => rfl
  | succ n ih =>
    rw [nums, ih (l.drop 4), nums, List.cons_append, List.drop_drop]
    rw [show 4 + 4 * n = 4 * (n + 1) by omega]
theorem rk_set (l : List UInt8) (m : Nat) (h : m < 27) : (rk l m).set m (num ((l.drop (8 + 4 * m)).take 4)) = rk l (m + 1) := by
  have h0 := nums_len m (l.drop 8)
  rw [rk, rk, nums_snoc, List.drop_drop, show 27 - m = (27 - (m + 1)) + 1 by omega, List.replicate_succ, List.set_append_right _ _ (by omega), h0, Nat.sub_self, List.set_cons_zero, List.append_assoc]; rfl
end Go.Proofs.Pgp
