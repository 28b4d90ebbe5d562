/- What the frames of this seat share: a slice of bytes that came in, read as a byte array; numbers that came in, read as natural numbers; the listed table, read as cells. -/
import Derived.Test.YtcakicifgbnhcaaDoorTie
import Derived.Test.YtcakicifgbnhcaaDoorCards
import Derived.Test.YtcakicifgbnhcaaDoorCrcLaws
import Derived.WalkKit
import Derived.ProofKit
import Derived.OpenShut
import Derived.ChangeOld
import Derived.Below
import Derived.Lay
import Derived.SevenTiedAt
import Derived.Lib.LaidTab
namespace Go.Proofs.YtcakicifgbnhcaaDoor
open Go.ChangeShapes Go.WideShapes Go.ChangeAt Go.RowKit

theorem own : ownKnob Tryd.prog.godebug = none := by kernel_rfl
theorem laidOut : laidOutB Tryd.prog = true := by kernel_rfl

theorem tab_of_laid {W : World} (h : laidMetH Tryd.prog [("cashbook/crc.halves", Rows.laid_cashbook_crc_halves)] W) : Tab W := by
  rw [MakeChecks.laidMetH_plain _ _ _ (by kernel_rfl)] at h
  have hg : Tryd.prog.globalNamed "cashbook/crc.halves" = some 0 := by kernel_rfl
  have hT := Lib.tabIs_of_head (k := .u32) (zs := [0, 274646895, 549293790, 820201905, 1098587580, 1361435347, 1640403810, 1905808397, 2197175160, 2460548119, 2722870694, 2987750089, 3280807620, 3553878443, 3811616794, 4084100981])
    hg (show (Tryd.prog.globals[0]?).map (·.type) = some 70 by kernel_rfl) Tryd.underlying70 Tryd.underlying23 (by kernel_rfl) (by kernel_rfl) h
  intro i hi
  rw [hT.cell hg i (by simpa using hi)]
  have : ∀ i, i < 16 → ([0, 274646895, 549293790, 820201905, 1098587580, 1361435347, 1640403810, 1905808397, 2197175160, 2460548119, 2722870694, 2987750089, 3280807620, 3553878443, 3811616794, 4084100981] : List Int).getD i 0 = (Crcp.ctab i : Nat) := by decide
  rw [this i hi]

/-- A slice of bytes that came in. -/
theorem bytes_in {H : Type} {enc : TypeId × Value → H} {W : World} {base : Nat} {v : Value} {d : DataW H} {p : List MemPlace} (hv : Value.okWide Tryd.prog W .any base 22 v) (h : DataW.Trod enc Tryd.prog W 0 (fun _ => true) true 22 v d p) :
    ∃ (A : Option Addr) (c : Nat) (s : ByteArray), v = .slice A s.size c ∧ Rd W A s ∧ s.size ≤ c ∧ c ≤ 9223372036854775807 := by
  obtain ⟨a0, len0, cap0, rfl⟩ := okWide_slice Tryd.underlying22 hv
  obtain ⟨fuel, hf⟩ := h
  rcases open_ints Tryd.underlying22 Tryd.underlying5 (by kernel_rfl) hf with ⟨hcs, _⟩ | ⟨x, l, c, zs, hcs, _, hl, hm, hz, _, hcell, hwz⟩
  · simp [Value.cells] at hcs
    obtain ⟨rfl, rfl, rfl⟩ := hcs
    exact ⟨none, 0, ByteArray.empty, rfl, Rd.none_ _ _, Nat.le_refl _, by omega⟩
  · simp [Value.cells] at hcs
    obtain ⟨rfl, rfl, rfl⟩ := hcs
    have hz : zs.length = cap0 := by simpa using hz
    have hlz : (zs.take len0).length = len0 := by simp; omega
    have hs : (strOfNums (zs.take len0)).size = len0 := by rw [strOfNums_size, hlz]
    refine ⟨some x, cap0, strOfNums (zs.take len0), by rw [hs], fun h0 => ?_, by omega, by unfold maxLen at hm; omega⟩
    rw [hs] at h0
    obtain ⟨b, off, spot⟩ := x
    have hc0 := hcell 0 (by omega)
    have hspot : spot = none := by simpa [Addr.add] using World.cell?_spot hc0
    subst hspot
    have hadd : ∀ i, (⟨b, off, none⟩ : Addr).add i = ⟨b, off + i, none⟩ := fun i => by unfold Addr.add; split <;> simp_all
    have hc1 : W.cell? ⟨b, off + 0, none⟩ = _ := (hadd 0) ▸ hc0
    refine ⟨b, off, rfl, lt_of_cell hc1, Lib.bytes_of_nums hlz (fun n hn => ?_) fun i hi => ?_⟩
    · have hw := hwz n (List.mem_of_mem_take hn)
      have : 0 ≤ n ∧ n ≤ 255 := by simpa [Lit.wf, IntKind.min, IntKind.max, IntKind.signed, IntKind.bits] using hw
      omega
    · have := hcell i (by omega)
      rw [hadd] at this
      rw [this]
      simp [List.getD, hi]

theorem nat_u32 {a : Int} (h : (Lit.int .u32 a).wf = true) : ∃ x : Nat, a = x ∧ x < 4294967296 := by
  have hx : 0 ≤ a ∧ a ≤ 4294967295 := by simpa [Lit.wf, IntKind.min, IntKind.max, IntKind.signed, IntKind.bits] using h
  exact ⟨a.toNat, by omega, by omega⟩
theorem nat_u8 {a : Int} (h : (Lit.int .u8 a).wf = true) : ∃ x : Nat, a = x ∧ x < 256 := by
  have hx : 0 ≤ a ∧ a ≤ 255 := by simpa [Lit.wf, IntKind.min, IntKind.max, IntKind.signed, IntKind.bits] using h
  exact ⟨a.toNat, by omega, by omega⟩
theorem nat_u16 {a : Int} (h : (Lit.int .u16 a).wf = true) : ∃ x : Nat, a = x ∧ x < 65536 := by
  have hx : 0 ≤ a ∧ a ≤ 65535 := by simpa [Lit.wf, IntKind.min, IntKind.max, IntKind.signed, IntKind.bits] using h
  exact ⟨a.toNat, by omega, by omega⟩
end Go.Proofs.YtcakicifgbnhcaaDoor
