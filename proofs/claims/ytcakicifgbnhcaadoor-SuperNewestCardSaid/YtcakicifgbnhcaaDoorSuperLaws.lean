/- The plain laws of turns: which of two supers is the newest. -/
import Derived.Test.YtcakicifgbnhcaaDoorSuperNewest
namespace Go.Proofs.YtcakicifgbnhcaaDoor
open Go.RowKit Pgp

/-- both are right: the later one is the newest -/
theorem turn_new (q : Nat) (r s : List Nat) (hq : q + 1 < 18446744073709551616) (hr : r.length = 27) (hs : s.length = 27) (hrl : ∀ x ∈ r, x < 4294967296) (hsl : ∀ x ∈ s, x < 4294967296) (a b : List UInt8)
    (hab : (q + 1) % 2 = 1 ∧ a = spage q r ∧ b = spage (q + 1) s ∨ (q + 1) % 2 = 0 ∧ a = spage (q + 1) s ∧ b = spage q r) :
    nfault a b = 0 ∧ nq a b = q + 1 ∧ nr a b = s := by
  have f1 := (sfault_page q r (by omega) hr).1
  have f2 := (sfault_page (q + 1) s hq hs).1
  obtain ⟨q1, r1⟩ := sread_page q r (by omega) hr hrl
  obtain ⟨q2, r2⟩ := sread_page (q + 1) s hq hs hsl
  rcases hab with ⟨hm, rfl, rfl⟩ | ⟨hm, rfl, rfl⟩
  · have hm0 : q % 2 = 0 := by omega
    rw [hm] at f2 q2 r2
    rw [hm0] at f1 q1 r1
    simp [nfault, nq, nr, nsel, f1, f2, q1, q2, r2]
  · have hm0 : q % 2 = 1 := by omega
    rw [hm] at f2 q2 r2
    rw [hm0] at f1 q1 r1
    simp [nfault, nq, nr, nsel, f1, f2, q1, q2, r2]
    omega

/-- the later one's block is not right: the earlier one is the newest -/
theorem turn_old (q : Nat) (r : List Nat) (hq : q < 18446744073709551616) (hr : r.length = 27) (hrl : ∀ x ∈ r, x < 4294967296) (t a b : List UInt8) (ht : sfault ((q + 1) % 2) t ≠ 0)
    (hab : (q + 1) % 2 = 1 ∧ a = spage q r ∧ b = t ∨ (q + 1) % 2 = 0 ∧ a = t ∧ b = spage q r) :
    nfault a b = 0 ∧ nq a b = q ∧ nr a b = r := by
  have f1 := (sfault_page q r hq hr).1
  obtain ⟨q1, r1⟩ := sread_page q r hq hr hrl
  rcases hab with ⟨hm, rfl, rfl⟩ | ⟨hm, rfl, rfl⟩
  · have hm0 : q % 2 = 0 := by omega
    rw [hm] at ht
    rw [hm0] at f1 q1 r1
    simp [nfault, nq, nr, nsel, f1, ht, q1, r1]
  · have hm0 : q % 2 = 1 := by omega
    rw [hm] at ht
    rw [hm0] at f1 q1 r1
    simp [nfault, nq, nr, nsel, f1, ht, q1, r1]

end Go.Proofs.YtcakicifgbnhcaaDoor
