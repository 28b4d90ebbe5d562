/- Slices of bytes read as byte arrays; the bit operations of uint32 as Nat's; the table of the crc, as the walks read it. -/
import Derived.Test.YtagmldkcogidgaaGreatDoorProg
import Derived.WalkKit
import Derived.WalkSpells
import Derived.Outline
import Derived.Handy
import Derived.Lib.Hide
import Derived.Lib.SlBytesRow
import Derived.Lib.SmallJoins
import Derived.Laws.BitsAllLaws
import Derived.Below
namespace Go.Proofs.YtagmldkcogidgaaGreatDoor
set_option maxRecDepth 100000
open Go.RowKit

/-- The slice with the address A and the length s.size holds the bytes s. -/
def Rd (w : World) (A : Option Addr) (s : ByteArray) : Prop :=
  0 < s.size → ∃ b o, A = some ⟨b, o, none⟩ ∧ b < w.heap.size ∧ ∀ i (h : i < s.size), w.cell? ⟨b, o + i, none⟩ = some (.int .u8 (s[i].toNat : Int))

theorem Rd.below {w w' : World} {A : Option Addr} {s : ByteArray} (h : Rd w A s) (hb : Below w.heap.size w w') : Rd w' A s := fun h0 => by
  obtain ⟨b, o, e, hlt, hc⟩ := h h0
  exact ⟨b, o, e, Nat.lt_of_lt_of_le hlt hb.size, fun i hi => (hb.cell (p := ⟨b, o + i, none⟩) hlt).trans (hc i hi)⟩

theorem lt_of_cell {w : World} {b o : Nat} {v : Value} (h : w.cell? ⟨b, o, none⟩ = some v) : b < w.heap.size := by
  rcases Nat.lt_or_ge b w.heap.size with hlt | hge
  · exact hlt
  · simp [World.cell?, Array.getElem?_eq_none hge] at h

theorem ofInt_u32 (a : Nat) (ha : a < 4294967296) : (BitVec.ofInt 32 (a : Int)).toNat = a := by
  rw [BitVec.ofInt_natCast, BitVec.toNat_ofNat]; exact Nat.mod_eq_of_lt (by omega)
theorem xor_u32 (a b : Nat) (ha : a < 4294967296) (hb : b < 4294967296) : bits .xor .u32 (a : Int) (b : Int) = ((a ^^^ b : Nat) : Int) := by
  have hx : a ^^^ b < 2 ^ 32 := Nat.xor_lt_two_pow (by omega) (by omega)
  show IntKind.u32.wrap ((BitVec.ofInt 32 (a : Int) ^^^ BitVec.ofInt 32 (b : Int)).toNat : Int) = _
  rw [BitVec.toNat_xor, ofInt_u32 a ha, ofInt_u32 b hb, IntKind.wrap_u32]
  omega
theorem low4_u32 (a : Nat) (ha : a < 4294967296) : bits .and .u32 (a : Int) 15 = ((a % 16 : Nat) : Int) := by
  show IntKind.u32.wrap ((BitVec.ofInt 32 (a : Int) &&& BitVec.ofInt 32 15).toNat : Int) = _
  have h15 : (BitVec.ofInt 32 15).toNat = 15 := by decide
  rw [BitVec.toNat_and, ofInt_u32 a ha, h15, IntKind.wrap_u32, show (15 : Nat) = 2 ^ 4 - 1 by decide, Nat.and_two_pow_sub_one_eq_mod]
  omega
/-- The cells of a block of bytes. -/
def bcells (s : ByteArray) : Array Value := s.data.map fun x => Value.int .u8 (x.toNat : Int)
theorem bcells_at (s : ByteArray) (i : Nat) (h : i < s.size) : (bcells s)[i]? = some (.int .u8 (s[i].toNat : Int)) := by
  unfold bcells
  rw [Array.getElem?_map, Array.getElem?_eq_getElem (show i < s.data.size from h)]
  rfl
theorem Rd.fresh (w : World) (s : ByteArray) (C : Array Value) (hC : C = bcells s) (t : TypeId) (fr : Nat × Nat) : Rd (w.alloc (.cells C t fr)) (some ⟨w.heap.size, 0, none⟩) s := fun _ =>
  ⟨w.heap.size, 0, rfl, by simp, fun i hi => by rw [World.cell?_alloc_mark, hC, Nat.zero_add, bcells_at s i hi]⟩
theorem Rd.none_ (w : World) (A : Option Addr) : Rd w A ByteArray.empty := fun h => absurd h (by decide)
theorem ret_nat {k : IntKind} {a b : Nat} (h : a = b) : Ending.returned (.int k (a : Int)) = .returned (.int k (b : Int)) := by rw [h]
theorem val_nat {k : IntKind} {a b : Nat} (h : a = b) : Value.int k (a : Int) = .int k (b : Int) := by rw [h]
end Go.Proofs.YtagmldkcogidgaaGreatDoor
