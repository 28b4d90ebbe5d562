/- Pages as plain functions: what is sealed, what is opened; the laws. -/
import Derived.Test.YtagmldkcogidgaaGreatDoorCrcPlain
namespace Go.Proofs.Pgp
set_option maxRecDepth 100000
open Crcp

def four (n : Nat) : List UInt8 := [UInt8.ofNat (n / 16777216), UInt8.ofNat (n / 65536), UInt8.ofNat (n / 256), UInt8.ofNat n]
def two (n : Nat) : List UInt8 := [UInt8.ofNat (n / 256), UInt8.ofNat n]
/-- the number that bytes spell, the greatest byte first -/
def num (l : List UInt8) : Nat := l.foldl (fun a x => 256 * a + x.toNat) 0
def head (number : Nat) (kind : UInt8) (n : Nat) : List UInt8 := four number ++ [kind] ++ two n ++ [0]
def ptail (number : Nat) (kind : UInt8) (body : List UInt8) : List UInt8 := head number kind body.length ++ body ++ List.replicate (500 - body.length) 0
def pseal (number : Nat) (kind : UInt8) (body : List UInt8) : List UInt8 := four (cmore 0 (ptail number kind body)) ++ ptail number kind body
/-- why a block isn't opened (0: it is) -/
def fault (number : Nat) (b : List UInt8) : Nat :=
  if b.length ≠ 512 then 1
  else if num (b.take 4) ≠ cmore 0 (b.drop 4) then 8
  else if num ((b.drop 4).take 4) ≠ number then 4
  else if 500 < num ((b.drop 9).take 2) ∨ b.getD 11 0 ≠ 0 then 2
  else if (b.drop (12 + num ((b.drop 9).take 2))).all (· == 0) = false then 2
  else 0
def okind (b : List UInt8) : UInt8 := b.getD 8 0
def obody (b : List UInt8) : List UInt8 := (b.drop 12).take (num ((b.drop 9).take 2))

theorem four_len (n : Nat) : (four n).length = 4 := rfl
theorem two_len (n : Nat) : (two n).length = 2 := rfl
theorem ptail_len (number : Nat) (kind : UInt8) (body : List UInt8) (h : body.length ≤ 500) : (ptail number kind body).length = 508 := by
  simp [ptail, head, four, two]; omega
theorem seal_len (number : Nat) (kind : UInt8) (body : List UInt8) (h : body.length ≤ 500) : (pseal number kind body).length = 512 := by
  rw [pseal, List.length_append, ptail_len _ _ _ h]; rfl

theorem num_four (n : Nat) (h : n < 4294967296) : num (four n) = n := by
  simp only [num, four, List.foldl_cons, List.foldl_nil, UInt8.toNat_ofNat']; omega
theorem num_two (n : Nat) (h : n < 65536) : num (two n) = n := by
  simp only [num, two, List.foldl_cons, List.foldl_nil, UInt8.toNat_ofNat']; omega
theorem of_mod {n : Nat} {a : UInt8} (h : n % 256 = a.toNat) : UInt8.ofNat n = a := UInt8.toNat_inj.1 (by rw [UInt8.toNat_ofNat']; exact h)
theorem four_num (l : List UInt8) (h : l.length = 4) : four (num l) = l := by
  match l, h with
  | [a, b, c, d], _ =>
    have ha := a.toNat_lt
    have hb := b.toNat_lt
    have hc := c.toNat_lt
    have hd := d.toNat_lt
    simp only [four, num, List.foldl_cons, List.foldl_nil]
    rw [of_mod (a := a) (by omega), of_mod (a := b) (by omega), of_mod (a := c) (by omega), of_mod (a := d) (by omega)]
theorem two_num (l : List UInt8) (h : l.length = 2) : two (num l) = l := by
  match l, h with
  | [a, b], _ =>
    have ha := a.toNat_lt
    have hb := b.toNat_lt
    simp only [two, num, List.foldl_cons, List.foldl_nil]
    rw [of_mod (a := a) (by omega), of_mod (a := b) (by omega)]
theorem num_lt4 (l : List UInt8) (h : l.length = 4) : num l < 4294967296 := by
  match l, h with
  | [a, b, c, d], _ =>
    have ha := a.toNat_lt
    have hb := b.toNat_lt
    have hc := c.toNat_lt
    have hd := d.toNat_lt
    simp only [num, List.foldl_cons, List.foldl_nil]; omega
theorem num_lt2 (l : List UInt8) (h : l.length = 2) : num l < 65536 := by
  match l, h with
  | [a, b], _ =>
    have ha := a.toNat_lt
    have hb := b.toNat_lt
    simp only [num, List.foldl_cons, List.foldl_nil]; omega

/-- the parts of what was sealed -/
theorem seal_parts (number : Nat) (kind : UInt8) (body : List UInt8) :
    (pseal number kind body).take 4 = four (cmore 0 (ptail number kind body)) ∧ (pseal number kind body).drop 4 = ptail number kind body ∧ ((pseal number kind body).drop 4).take 4 = four number ∧
    ((pseal number kind body).drop 9).take 2 = two body.length ∧ (pseal number kind body).getD 11 0 = 0 ∧ (pseal number kind body).getD 8 0 = kind ∧ (pseal number kind body).drop 12 = body ++ List.replicate (500 - body.length) 0 := by
  refine ⟨rfl, rfl, rfl, rfl, rfl, rfl, ?_⟩
  show body ++ _ = _
  rfl

theorem zeros (n : Nat) : (List.replicate n (0 : UInt8)).all (· == 0) = true := by
  rw [List.all_eq_true]; intro x hx; rw [(List.mem_replicate.1 hx).2]; rfl
theorem all_zero {l : List UInt8} (h : l.all (· == 0) = true) : l = List.replicate l.length 0 := by
  refine List.eq_replicate_of_mem fun x hx => ?_
  have := List.all_eq_true.1 h x hx
  simpa using this

/-- what was sealed is opened, as it was -/
theorem open_seal (number : Nat) (kind : UInt8) (body : List UInt8) (hn : number < 4294967296) (h : body.length ≤ 500) :
    fault number (pseal number kind body) = 0 ∧ okind (pseal number kind body) = kind ∧ obody (pseal number kind body) = body := by
  obtain ⟨e1, e2, e3, e4, e5, e6, e7⟩ := seal_parts number kind body
  have hs := seal_len number kind body h
  have hm := more_lt (s := 0) (ptail number kind body) (by decide)
  have hd : (pseal number kind body).drop (12 + body.length) = List.replicate (500 - body.length) 0 := by
    rw [← List.drop_drop, e7, List.drop_left]
  refine ⟨?_, e6, ?_⟩
  · unfold fault
    rw [if_neg (by rw [hs]; decide), e1, num_four _ hm, e2, if_neg (by simp), ← e2, e3, num_four _ hn, if_neg (by simp), e4, num_two _ (by omega), if_neg (by rw [e5]; simp; omega), hd, if_neg (by rw [zeros]; decide)]
  · rw [obody, e4, num_two _ (by omega), e7, List.take_left]

/-- what is opened is just what was sealed -/
theorem seal_open (number : Nat) (b : List UInt8) (h : fault number b = 0) : (obody b).length ≤ 500 ∧ pseal number (okind b) (obody b) = b := by
  unfold fault at h
  split at h
  · cases h
  next h1 =>
  split at h
  · cases h
  next h2 =>
  split at h
  · cases h
  next h3 =>
  split at h
  · cases h
  next h4 =>
  split at h
  · cases h
  next h5 =>
  have hl : b.length = 512 := by omega
  have h2 : num (b.take 4) = cmore 0 (b.drop 4) := by omega
  have h3 : num ((b.drop 4).take 4) = number := by omega
  have h4 : num ((b.drop 9).take 2) ≤ 500 ∧ b.getD 11 0 = 0 := by
    rcases not_or.1 h4 with ⟨a, c⟩
    exact ⟨by omega, by simpa using c⟩
  have hob : (obody b).length = num ((b.drop 9).take 2) := by rw [obody, List.length_take, List.length_drop]; omega
  refine ⟨by rw [hob]; exact h4.1, ?_⟩
  have ht : ptail number (okind b) (obody b) = b.drop 4 := by
    have f1 : four number = (b.drop 4).take 4 := by rw [← h3]; exact four_num _ (by simp; omega)
    have f2 : two (obody b).length = (b.drop 9).take 2 := by rw [hob]; exact two_num _ (by simp; omega)
    have f3 : List.replicate (500 - (obody b).length) 0 = b.drop (12 + (obody b).length) := by
      have := all_zero (l := b.drop (12 + num ((b.drop 9).take 2))) (by
        cases h : (b.drop (12 + num ((b.drop 9).take 2))).all (· == 0) with
        | true => rfl
        | false => exact absurd h h5)
      rw [hob, this]; congr 1; simp; omega
    have f4 : [okind b] = (b.drop 8).take 1 := by
      rw [okind, List.getD, List.getElem?_eq_getElem (by omega), List.drop_eq_getElem_cons (by omega)]; rfl
    have f5 : [(0 : UInt8)] = (b.drop 11).take 1 := by
      have := h4.2
      rw [List.getD, List.getElem?_eq_getElem (by omega)] at this
      rw [List.drop_eq_getElem_cons (show 11 < b.length by omega)]
      simp at this
      simp [this]
    have f6 : obody b = (b.drop 12).take (obody b).length := by rw [hob]; rfl
    rw [ptail, head, f1, f2, f3, f4, f5]
    have j : ∀ i k, (b.drop i).take k ++ b.drop (i + k) = b.drop i := fun i k => by rw [← List.drop_drop, List.take_append_drop]
    simp only [List.append_assoc]
    conv => lhs; rhs; rhs; rhs; rhs; lhs; rw [f6]
    rw [j 12, j 11 1, j 9 2, j 8 1, j 4 4]
  rw [pseal, ht, ← h2, four_num _ (by simp; omega)]
  exact List.take_append_drop 4 b
end Go.Proofs.Pgp
