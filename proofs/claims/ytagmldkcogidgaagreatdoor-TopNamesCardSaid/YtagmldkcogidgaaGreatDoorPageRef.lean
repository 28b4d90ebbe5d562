/- The reference's texts: Four, Two, Seal. -/
import Derived.Test.YtagmldkcogidgaaGreatDoorPageSeal
import Derived.Deep.Cut
import Derived.Deep.CutRange
namespace Go.Proofs.YtagmldkcogidgaaGreatDoor
set_option maxRecDepth 100000
open Go.RowKit Pgp
open Crcp (cmore)

theorem seal_long (number : Nat) (kind : UInt8) (A : Option Addr) (body : List UInt8) (c : Nat) (w : World) (hb : 500 < body.length) :
    Calls Tryz.prog 76 #[.int .u32 number, .int .u8 kind.toNat, .slice A body.length c] w fun e w' => e = .returned (.tuple #[.slice none 0 0, .int .i64 3]) ∧ w = w' := by
  go_enter Tryz.func76, Tryz.ntmps76
  go_wp2
  go_ret2
  exact ⟨rfl, rfl⟩

theorem cat (l m : List UInt8) : (⟨l.toArray⟩ : ByteArray) ++ ⟨m.toArray⟩ = ⟨(l ++ m).toArray⟩ := by
  apply ByteArray.ext; simp

theorem keep_one {W w' : World} {n : Nat} {v : Value} (hb : Below W.heap.size W w') (hc : W.cell? ⟨n, 0, none⟩ = some v) : w'.cell? ⟨n, 0, none⟩ = some v :=
  (hb.cell (p := ⟨n, 0, none⟩) (lt_of_cell hc)).trans hc
theorem cell_new (v : Value) (W : World) : (W.alloc (.cells #[v] 5)).cell? ⟨W.heap.size, 0, none⟩ = some v := by simp [go_sem]
theorem cell_newd (v : Value) (W : World) : (W.alloc (.cells #[v] 5)).drew.cell? ⟨W.heap.size, 0, none⟩ = some v := cell_new v W
theorem bel_drew {w X : World} (h : Below w.heap.size w X) : Below w.heap.size w X.drew := h.drew
theorem bel_alloc {w X : World} {o : Obj} (h : Below w.heap.size w X) : Below w.heap.size w (X.alloc o) := h.alloc h.size _
theorem bel_call {w X Y : World} (h : Below w.heap.size w X) (hb : Below X.heap.size X Y) : Below w.heap.size w Y := h.trans (hb.mono h.size)
theorem head_cat (number : Nat) (kind : UInt8) (n : Nat) (body : List UInt8) : (⟨(four number).toArray⟩ : ByteArray) ++ ⟨#[kind]⟩ ++ ⟨(two n).toArray⟩ ++ ⟨#[0]⟩ ++ ⟨body.toArray⟩ = ⟨(head number kind n ++ body).toArray⟩ := by
  have e1 : (⟨#[kind]⟩ : ByteArray) = ⟨[kind].toArray⟩ := rfl
  have e2 : (⟨#[0]⟩ : ByteArray) = ⟨[0].toArray⟩ := rfl
  rw [e1, e2, cat, cat, cat, cat]; rfl

end Go.Proofs.YtagmldkcogidgaaGreatDoor
