/- The four laws of the crc: each returns true, whatever its input, and writes nothing that was there. -/
/- CrcTold: whatever is changed in four bytes in a row, the law returns true. No condition beyond the row's own. -/
import Derived.Test.YtagmldkcogidgaaGreatDoorCrcWalks
import Derived.Test.YtagmldkcogidgaaGreatDoorBytes
import Derived.Lib.QuietBelow
namespace Go.Proofs.YtagmldkcogidgaaGreatDoor
set_option maxRecDepth 100000
open Go.RowKit Go.Sort
open Crcp (cmore)

theorem Tab.pos {w : World} (h : Tab w) : 0 < w.heap.size := lt_of_cell (h 0 (by decide))

/-- what a callee keeps in every world of the class -/
theorem Rd.regrown {w : World} {A : Option Addr} {s : ByteArray} (h : Rd w A s) (d : Nat) (os : Array Obj) : Rd (grow (redrawn w d) os) A s := h.below (below_regrown w d os)
theorem Tab.regrown {w : World} (h : Tab w) (d : Nat) (os : Array Obj) : Tab (grow (redrawn w d) os) := h.below h.pos (below_regrown w d os)
theorem same_regrown {P : Program} {f : FuncId} {args : Array Value} {w : World} {d : Nat} {os : Array Obj} {v : Value}
    (h : Calls P f args (grow (redrawn w d) os) fun e w' => e = .returned v ∧ grow (redrawn w d) os = w') : Calls P f args (grow (redrawn w d) os) fun e w'' => e = .returned v ∧ ∃ p : Regrown, w'' = grow (redrawn w p.d) p.os :=
  Calls.regrown_of (h.mono fun _ _ ⟨he, hw⟩ => ⟨he, hw ▸ Below.refl _ _⟩)

theorem string_of {P : Program} {w : World} {src e dst : TypeId} (hs : P.underlying src = some (.slice e)) (he : P.underlying e = some (.int .u8)) (hd : P.underlying dst = some .string) {A : Option Addr} {s : ByteArray} (h : Rd w A s) (cap : Nat) :
    (convert src dst (.slice A s.size cap)).run P w = .ok (.string s) w := by
  rcases Nat.eq_zero_or_pos s.size with h0 | h0
  · have hs0 : s = ByteArray.empty := by
      apply ByteArray.ext; apply Array.toList_inj.1
      have : s.data.toList.length = 0 := by simpa using h0
      rw [List.eq_nil_of_length_eq_zero this]; rfl
    subst hs0
    rcases A with _ | a
    · exact run_convert_bytes_nil (P := P) w src e hs he _ cap dst hd
    · rw [run_convert_bytes_string w src dst e _ _ cap hs he hd]
      show (Conv.bytesToString (.slice (some a) 0 cap)).run P w = _
      have hl : (loadCells a 0).run P w = .ok (([] : List Int).map (Value.int .u8)).toArray w := run_loadCells_list (P := P) w a [] (fun j v hj => by simp at hj)
      rw [run_bytesToString w a 0 cap [] hl]
      rfl
  · obtain ⟨b, o, rfl, _, hc⟩ := h h0
    exact Lib.run_convert_whole w src e dst hs he hd b o s hc cap

theorem Rd.grown {w w' : World} {A : Option Addr} {s : ByteArray} {base : Nat} {row : Option Nat} (h : Rd w A s) (hb : ∀ b o, A = some ⟨b, o, none⟩ → b < base) (hg : w.grownBy w' row) (hr : ∀ k, row = some k → base ≤ k) : Rd w' A s := fun h0 => by
  obtain ⟨b, o, e, hlt, hc⟩ := h h0
  have hbb := hb b o e
  exact ⟨b, o, e, Nat.lt_of_lt_of_le hlt hg.size, fun i hi => hg.cell (hc i hi) (fun e => by have := hr _ e.symm; simp at this; omega)⟩

end Go.Proofs.YtagmldkcogidgaaGreatDoor
namespace Go.Proofs.YtagmldkcogidgaaGreatDoor
set_option maxRecDepth 100000
open Go.RowKit Go.Sort
open Crcp (cmore)

/-- An append onto a new, empty row: a copy. -/
theorem wpList_clone {w : World} {ops : Array Oper} {rest : List Oper} {o : Oper} {a : Act} {Q : Exit → Act → World → Prop} (hgd : Region.wanted o (yielded ops a.tmps) = true) (x y : Operand)
    (ho : o.op = .call { callee := .builtin .append, args := #[x, y], argTypes := #[29, 29] }) (hty : o.type = 29)
    (base : Nat) (v : Value) (hx : a.eval x = v) (hown : Own w base v ByteArray.empty) (A : Option Addr) (c : Nat) (t : ByteArray) (hy : a.eval y = .slice A t.size c) (hr : Rd w A t)
    (hsz : t.size ≤ 140737488355328) (hbase : base ≤ w.heap.size)
    (h : ∀ A' c' w', Own w' base (.slice A' t.size c') t → w.grownBy w' v.ownBlock → ((Value.slice A' t.size c').ownBlock = v.ownBlock ∨ (Value.slice A' t.size c').ownBlock = some w.heap.size) →
      wpList Tryz.prog ops Q rest (a.put o.dst (.slice A' t.size c')) w') : wpList Tryz.prog ops Q (o :: rest) a w := by
  refine wpList_app hgd x y ho hty base v ByteArray.empty hx hown A c t hy hr (by simpa using hsz) hbase fun A' c' u w' e _ h1 h2 h3 => ?_
  have hu : u = t := by rw [e.out]; exact ByteArray.empty_append
  subst hu
  exact h A' c' w' h1 h2 h3

theorem Own.stored {w : World} {base g c : Nat} {l : List UInt8} (h : Own w base (.slice (some ⟨g, 0, none⟩) l.length c) ⟨l.toArray⟩) (j : Nat) (x : UInt8) :
    Own (w.setCell ⟨g, j, none⟩ (.int .u8 (x.toNat : Int))) base (.slice (some ⟨g, 0, none⟩) (l.set j x).length c) ⟨(l.set j x).toArray⟩ ∧ w.grownBy (w.setCell ⟨g, j, none⟩ (.int .u8 (x.toNat : Int))) (some g) := by
  have h' : w.ownsRow base 5 1 (.slice (some ⟨g, 0, none⟩) l.length c) l.length (l.map fun x => Value.int .u8 (x.toNat : Int)) := by
    simpa [Own, bcells, ByteArray.size] using h
  have := World.ownsRow.stored h' j (.int .u8 (x.toNat : Int))
  refine ⟨?_, this.2⟩
  have h2 := this.1
  unfold Own bcells
  simpa [ByteArray.size, List.map_set] using h2
theorem Own.at_ {w : World} {base g n c : Nat} {l : List UInt8} (h : Own w base (.slice (some ⟨g, 0, none⟩) n c) ⟨l.toArray⟩) (j : Nat) (x : UInt8) (hx : l[j]? = some x) : w.cell? ⟨g, j, none⟩ = some (.int .u8 (x.toNat : Int)) := by
  obtain ⟨hj, rfl⟩ := List.getElem?_eq_some_iff.1 hx
  obtain ⟨b, o, e, _, hc⟩ := h.rd (show 0 < (⟨l.toArray⟩ : ByteArray).size by simp [ByteArray.size]; omega)
  injection e with e
  injection e with e1 e2
  subst e1 e2
  have := hc j (by simpa [ByteArray.size] using hj)
  rw [Nat.zero_add] at this
  exact this
theorem Own.free {w : World} {base g n c : Nat} {s : ByteArray} (h : Own w base (.slice (some ⟨g, 0, none⟩) n c) s) (j : Nat) : w.frozen? ⟨g, j, none⟩ = false := by
  obtain ⟨A, c', e, _⟩ := h.form
  injection e with _ e2 _
  subst e2
  exact World.ownsRow.frozenAt h j

theorem Own.drew {w : World} {base : Nat} {v : Value} {s : ByteArray} (h : Own w base v s) : Own w.drew base v s := h
theorem toBA (s : ByteArray) : (⟨s.data.toList.toArray⟩ : ByteArray) = s := by simp
theorem lenBA (s : ByteArray) : s.data.toList.length = s.size := by simp

section
open Go.ChangeShapes Go.WideShapes Go.ChangeAt
end
end Go.Proofs.YtagmldkcogidgaaGreatDoor
