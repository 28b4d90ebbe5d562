/- The chapter's example of pages; PageSeals; PageMoved. -/
import Derived.Test.YtagmldkcogidgaaGreatDoorPageOpen
import Derived.Test.YtagmldkcogidgaaGreatDoorPageRef
namespace Go.Proofs.YtagmldkcogidgaaGreatDoor
set_option maxRecDepth 100000
open Go.RowKit Pgp
open Crcp (cmore)

theorem moved (number other : Nat) (kind : UInt8) (body : List UInt8) (hn : number < 4294967296) (h : body.length ≤ 500) (hne : ¬ number = other) : fault other (pseal number kind body) = 4 := by
  obtain ⟨e1, e2, e3, e4, e5, e6, e7⟩ := seal_parts number kind body
  have hs := seal_len number kind body h
  have hm := Crcp.more_lt (s := 0) (ptail number kind body) (by decide)
  unfold fault
  rw [if_neg (by rw [hs]; decide), e1, num_four _ hm, e2, if_neg (by simp), ← e2, e3, num_four _ hn, if_pos hne]

theorem ba_list (s : ByteArray) : ∃ l : List UInt8, s = ⟨l.toArray⟩ ∧ s.size = l.length := ⟨s.data.toList, by simp, by rw [Array.length_toList]; rfl⟩
section
open Go.ChangeShapes Go.WideShapes Go.ChangeAt
end

/-- the string of a row that can be read -/
theorem str_rd {w : World} {A : Option Addr} {l : List UInt8} (h : Rd w A ⟨l.toArray⟩) (c : Nat) : (convert 29 9 (.slice A l.length c)).run Tryz.prog w = .ok (.string ⟨l.toArray⟩) w := by
  have := string_of (P := Tryz.prog) (w := w) Tryz.underlying29 Tryz.underlying5 Tryz.underlying9 h c
  rw [show (⟨l.toArray⟩ : ByteArray).size = l.length by simp [ByteArray.size]] at this
  exact this
/-- a row that the call made, as the walk reads it -/
theorem own_list {w : World} {base : Nat} {v : Value} {l : List UInt8} (h : Own w base v ⟨l.toArray⟩) : ∃ A c, v = .slice A l.length c ∧ Rd w A ⟨l.toArray⟩ ∧ l.length ≤ c := by
  obtain ⟨A, c, rfl, h1, h2, _⟩ := h.form
  have hs : (⟨l.toArray⟩ : ByteArray).size = l.length := by simp [ByteArray.size]
  rw [hs] at *
  exact ⟨A, c, rfl, h1, h2⟩
theorem nil_str (w : World) : (convert 29 9 (.slice none 0 0)).run Tryz.prog w = .ok (.string ⟨#[]⟩) w := str_rd (l := []) (Rd.none_ w none) 0

end Go.Proofs.YtagmldkcogidgaaGreatDoor
