/- What the frames of this seat share: slices that came in, read as lists; numbers that came in, read as natural numbers. -/
import Derived.Test.YtpecleflhhbecaaGen
import Derived.Test.YtpecleflhhbecaaRows
import Derived.Test.YtpecleflhhbecaaChecked
import Derived.ProofKit
import Derived.OpenShut
import Derived.ChangeOld
import Derived.Lay
namespace Go.Proofs.Ytpecleflhhbecaa
open Go.ChangeShapes Go.WideShapes Go.ChangeAt Go.RowKit

theorem own : ownKnob Try.prog.godebug = none := by kernel_rfl
theorem laidOut : laidOutB Try.prog = true := by kernel_rfl

/-- A slice of numbers that came in. -/
theorem ints_in {k : IntKind} {t e : TypeId} (ht : Try.prog.underlying t = some (.slice e)) (he : Try.prog.underlying e = some (.int k)) (hc1 : Try.prog.cellsOf e = 1) {H : Type} {enc : TypeId × Value → H} {W : World} {base : Nat} {v : Value} {d : DataW H} {p : List MemPlace} (hv : Value.okWide Try.prog W .any base t v) (h : DataW.Trod enc Try.prog W 0 (fun _ => true) true t v d p) :
    ∃ (A : Option Addr) (c : Nat) (s : List Int), v = .slice A s.length c ∧ Rd W A (s.map (Value.int k)) ∧ s.length ≤ c ∧ c ≤ 9223372036854775807 ∧ ∀ n ∈ s, (Lit.int k n).wf = true := by
  obtain ⟨a0, len0, cap0, rfl⟩ := okWide_slice ht hv
  obtain ⟨fuel, hf⟩ := h
  rcases open_ints ht he hc1 hf with ⟨hcs, _⟩ | ⟨x, l, c, zs, hcs, _, hl, hm, hz, _, hcell, hwz⟩
  · simp [Value.cells] at hcs
    obtain ⟨rfl, rfl, rfl⟩ := hcs
    exact ⟨none, 0, [], rfl, Rd.nil _ _, Nat.le_refl _, by omega, fun n h => absurd h (by simp)⟩
  · simp [Value.cells] at hcs
    obtain ⟨rfl, rfl, rfl⟩ := hcs
    have hz : zs.length = cap0 := by simpa using hz
    have hlz : (zs.take len0).length = len0 := by simp; omega
    refine ⟨some x, cap0, zs.take len0, by rw [hlz], fun h0 => ?_, by omega, by unfold maxLen at hm; omega, fun n hn => hwz n (List.mem_of_mem_take hn)⟩
    rw [List.length_map, hlz] at h0
    obtain ⟨b, off, spot⟩ := x
    have hc0 := hcell 0 (by omega)
    have hspot : spot = none := by simpa [Addr.add] using World.cell?_spot hc0
    subst hspot
    have hc1 := addAt b off 0 ▸ hc0
    refine ⟨b, off, rfl, lt_of_cell hc1, fun i u hi => ?_⟩
    rw [List.getElem?_map, List.getElem?_take] at hi
    split at hi
    · next hlt =>
      have := hcell i (by omega)
      rw [addAt] at this
      rw [this]
      cases hzi : zs[i]? with
      | none => rw [hzi] at hi; cases hi
      | some y => rw [hzi] at hi; rw [← Option.some.inj hi, List.getD, hzi]; rfl
    · cases hi

/-- A slice of numbers of 32 bits that came in. -/
theorem u32s_in {H : Type} {enc : TypeId × Value → H} {W : World} {base : Nat} {v : Value} {d : DataW H} {p : List MemPlace} (hv : Value.okWide Try.prog W .any base 25 v) (h : DataW.Trod enc Try.prog W 0 (fun _ => true) true 25 v d p) :
    ∃ (A : Option Addr) (c : Nat) (s : List Nat), v = .slice A s.length c ∧ Rd W A (s.map u32v) ∧ s.length ≤ c ∧ c ≤ 9223372036854775807 ∧ ∀ n ∈ s, n < 4294967296 := by
  obtain ⟨A, c, s, rfl, hr, h1, h2, h3⟩ := ints_in (k := .u32) Try.underlying25 Try.underlying48 (by kernel_rfl) hv h
  have hb : ∀ n ∈ s, 0 ≤ n ∧ n ≤ 4294967295 := fun n hn => bounds_u32 (h3 n hn)
  refine ⟨A, c, s.map Int.toNat, by rw [List.length_map], ?_, by rw [List.length_map]; exact h1, h2, fun n hn => ?_⟩
  · have : (s.map Int.toNat).map u32v = s.map (Value.int .u32) := by
      rw [List.map_map]
      refine List.map_congr_left fun n hn => ?_
      have := hb n hn
      show Value.int .u32 (n.toNat : Int) = _
      rw [Int.toNat_of_nonneg this.1]
    rw [this]; exact hr
  · obtain ⟨m, hm, rfl⟩ := List.mem_map.1 hn
    have := hb m hm
    omega

/-- A slice of bytes that came in. -/
theorem bytes_in {H : Type} {enc : TypeId × Value → H} {W : World} {base : Nat} {v : Value} {d : DataW H} {p : List MemPlace} (hv : Value.okWide Try.prog W .any base 33 v) (h : DataW.Trod enc Try.prog W 0 (fun _ => true) true 33 v d p) :
    ∃ (A : Option Addr) (c : Nat) (s : List UInt8), v = .slice A s.length c ∧ Rd W A (s.map b8) ∧ s.length ≤ c ∧ c ≤ 9223372036854775807 := by
  obtain ⟨A, c, s, rfl, hr, h1, h2, h3⟩ := ints_in (k := .u8) Try.underlying33 Try.underlying5 (by kernel_rfl) hv h
  have hb : ∀ n ∈ s, 0 ≤ n ∧ n ≤ 255 := fun n hn => bounds_u8 (h3 n hn)
  refine ⟨A, c, s.map fun n => UInt8.ofNat n.toNat, by rw [List.length_map], ?_, by rw [List.length_map]; exact h1, h2⟩
  have : (s.map fun n => UInt8.ofNat n.toNat).map b8 = s.map (Value.int .u8) := by
    rw [List.map_map]
    refine List.map_congr_left fun n hn => ?_
    have := hb n hn
    show Value.int .u8 ((UInt8.ofNat n.toNat).toNat : Int) = _
    congr 1
    rw [UInt8.toNat_ofNat']
    omega
  rw [this]; exact hr
end Go.Proofs.Ytpecleflhhbecaa
