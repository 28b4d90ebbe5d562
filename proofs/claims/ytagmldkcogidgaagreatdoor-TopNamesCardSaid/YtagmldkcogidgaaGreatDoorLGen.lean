/- Rows of one-cell elements: slices that read as a list of values; rows of the call's own; append at any program; the frames of functions. -/
import Derived.Test.YtagmldkcogidgaaGreatDoorProg
import Derived.WalkKit
import Derived.WalkSpells
import Derived.Outline
import Derived.Handy
import Derived.Lib.Hide
import Derived.Lib.SlBytesRow
import Derived.Lib.SmallJoins
import Derived.Laws.BitsAllLaws
import Derived.Maps.AppendAt
import Derived.Deep.AppendLies
import Derived.OwnWalkIn
import Derived.Below
namespace Go.Proofs.YtagmldkcogidgaaGreatDoor.L
open Go.RowKit

/-- The slice with the address A and the length cs.length holds the cells cs. -/
def Rd (w : World) (A : Option Addr) (cs : List Value) : Prop :=
  0 < cs.length → ∃ b o, A = some ⟨b, o, none⟩ ∧ b < w.heap.size ∧ ∀ (i : Nat) (v : Value), cs[i]? = some v → w.cell? ⟨b, o + i, none⟩ = some v
theorem lt_of_cell {w : World} {b o : Nat} {v : Value} (h : w.cell? ⟨b, o, none⟩ = some v) : b < w.heap.size := by
  rcases Nat.lt_or_ge b w.heap.size with hlt | hge
  · exact hlt
  · simp [World.cell?, Array.getElem?_eq_none hge] at h
theorem addAt (b o i : Nat) : (⟨b, o, none⟩ : Addr).add i = ⟨b, o + i, none⟩ := by unfold Addr.add; split <;> simp_all
theorem Rd.nil (w : World) (A : Option Addr) : Rd w A [] := fun h => absurd h (by decide)
theorem Rd.below {w w' : World} {A : Option Addr} {cs : List Value} (h : Rd w A cs) (hb : Below w.heap.size w w') : Rd w' A cs := fun h0 => by
  obtain ⟨b, o, e, hlt, hc⟩ := h h0
  exact ⟨b, o, e, Nat.lt_of_lt_of_le hlt hb.size, fun i v hi => (hb.cell (p := ⟨b, o + i, none⟩) hlt).trans (hc i v hi)⟩
theorem Rd.kept {w w' : World} {A : Option Addr} {cs : List Value} {row : Option Nat} (h : Rd w A cs) (hg : w.grownBy w' row) (hne : ∀ b o, A = some ⟨b, o, none⟩ → some b ≠ row) : Rd w' A cs := fun h0 => by
  obtain ⟨b, o, e, hlt, hc⟩ := h h0
  exact ⟨b, o, e, Nat.lt_of_lt_of_le hlt hg.size, fun i v hi => hg.cell (hc i v hi) (hne b o e)⟩
theorem Rd.fresh (w : World) (C : Array Value) (t : TypeId) (fr : Nat × Nat) : Rd (w.alloc (.cells C t fr)) (some ⟨w.heap.size, 0, none⟩) C.toList := fun _ =>
  ⟨w.heap.size, 0, rfl, by simp, fun i v hi => by rw [World.cell?_alloc_mark, Nat.zero_add, ← Array.getElem?_toList]; exact hi⟩
theorem Rd.take {w : World} {A : Option Addr} {cs : List Value} (h : Rd w A cs) (n : Nat) : Rd w A (cs.take n) := fun h0 => by
  obtain ⟨b, o, e, hlt, hc⟩ := h (by rw [List.length_take] at h0; omega)
  exact ⟨b, o, e, hlt, fun i v hi => hc i v (by rw [List.getElem?_take] at hi; split at hi <;> first | exact hi | cases hi)⟩
theorem Rd.drop {w : World} {A : Option Addr} {cs : List Value} (h : Rd w A cs) (n cap : Nat) (hc : cs.length ≤ cap) (hn : n ≤ cs.length) : Rd w (if cap = n then A else A.map (·.add n)) (cs.drop n) := fun h0 => by
  rw [List.length_drop] at h0
  obtain ⟨b, o, e, hlt, hcell⟩ := h (by omega)
  subst e
  rw [if_neg (by omega)]
  refine ⟨b, o + n, by rw [Option.map_some, addAt], hlt, fun i v hi => ?_⟩
  rw [List.getElem?_drop] at hi
  rw [Nat.add_assoc]; exact hcell _ _ hi

/-- The row v, made by the call in a block from base on, of elements of type e, holds the cells cs. -/
def Own (w : World) (base : Nat) (e : TypeId) (v : Value) (cs : List Value) : Prop := w.ownsRow base e 1 v cs.length cs
theorem Own.form {w : World} {base : Nat} {e : TypeId} {v : Value} {cs : List Value} (h : Own w base e v cs) : ∃ A c, v = .slice A cs.length c ∧ Rd w A cs ∧ cs.length ≤ c ∧ c ≤ 9223372036854775807 := by
  rcases h.2 with ⟨rfl, h0⟩ | ⟨g, cap, cur, rfl, hg, hh, hnc, hcm, hcs, htake⟩
  · exact ⟨none, 0, by rw [h0], fun h => by omega, by omega, by omega⟩
  · refine ⟨_, _, rfl, fun h0 => ⟨g, 0, rfl, (Array.getElem?_eq_some_iff.1 hh).1, fun i u hi => ?_⟩, hnc, by unfold maxLen at hcm; omega⟩
    have := World.ownsRow.cells h (g := g) rfl i u hi
    rw [addAt] at this
    exact this
theorem Own.rd {w : World} {base : Nat} {e : TypeId} {A : Option Addr} {n c : Nat} {cs : List Value} (h : Own w base e (.slice A n c) cs) : Rd w A cs := by
  obtain ⟨A', c', e, h1, _, _⟩ := h.form
  injection e with e1 e2 e3
  subst e1; exact h1
theorem Own.len {w : World} {base : Nat} {e : TypeId} {A : Option Addr} {n c : Nat} {cs : List Value} (h : Own w base e (.slice A n c) cs) : n = cs.length := by
  obtain ⟨A', c', e, _, _, _⟩ := h.form
  injection e
theorem Own.lt {w : World} {base : Nat} {e : TypeId} {v : Value} {cs : List Value} (h : Own w base e v cs) : ∀ k, v.ownBlock = some k → base ≤ k ∧ k < w.heap.size := World.ownsRow.lt h
theorem Own.kept {w w' : World} {base : Nat} {e : TypeId} {v : Value} {cs : List Value} {row : Option Nat} (h : Own w base e v cs) (hg : w.grownBy w' row) (hne : v.ownBlock = none ∨ v.ownBlock ≠ row) : Own w' base e v cs := World.ownsRow.kept h hg hne
theorem Own.alloc {w : World} {base : Nat} {e : TypeId} {v : Value} {cs : List Value} (h : Own w base e v cs) (o : Obj) : Own (w.alloc o) base e v cs := World.ownsRow.alloc h o
theorem Own.drew {w : World} {base : Nat} {e : TypeId} {v : Value} {cs : List Value} (h : Own w base e v cs) : Own w.drew base e v cs := h
theorem grown_of_below {w w' : World} (hb : Below w.heap.size w w') (row : Option Nat) : w.grownBy w' row := ⟨hb.os, hb.tape, hb.output, hb.size, fun k hk _ => hb.block k hk⟩
theorem Own.below {w w' : World} {base : Nat} {e : TypeId} {v : Value} {cs : List Value} (h : Own w base e v cs) (hb : Below w.heap.size w w') : Own w' base e v cs :=
  h.kept (grown_of_below hb none) (by cases v.ownBlock <;> simp)
theorem Own.nil (w : World) (base : Nat) (e : TypeId) : Own w base e (.slice none 0 0) [] := World.ownsRow_nil w base e 1
theorem Own.lit (w : World) (base : Nat) (e : TypeId) (C : Array Value) (hb : base ≤ w.heap.size) (hm : C.size ≤ 9223372036854775807) : Own (w.alloc (.cells C e)) base e (.slice (some ⟨w.heap.size, 0, none⟩) C.size C.size) C.toList := by
  have := World.ownsRow_lit (e := e) (size := 1) w C C.size hb (by unfold maxLen; omega) (by omega)
  unfold Own
  rw [Array.length_toList]
  exact this
theorem Own.mono {w : World} {base base' : Nat} {e : TypeId} {v : Value} {cs : List Value} (h : Own w base e v cs) (hb : base' ≤ base) : Own w base' e v cs := Joins.ownsRow_le h hb
/-- the block is of the element's type -/
theorem Own.blk {w : World} {base : Nat} {e : TypeId} {v : Value} {cs : List Value} (h : Own w base e v cs) {g : Nat} (hg : v.ownBlock = some g) : ∃ C, w.heap[g]? = some (.cells C e (0, 0)) := by
  rcases h.2 with ⟨rfl, _⟩ | ⟨g', cap, cur, rfl, _, hh, _⟩
  · cases hg
  · have : g' = g := by simpa [Value.ownBlock] using hg
    subst this; exact ⟨_, hh⟩
/-- rows of two types don't share a block -/
theorem Own.apart {w : World} {base base' : Nat} {e e' : TypeId} {v v' : Value} {cs cs' : List Value} (h : Own w base e v cs) (h' : Own w base' e' v' cs') (hne : e ≠ e') : v.ownBlock = none ∨ v.ownBlock ≠ v'.ownBlock := by
  cases hv : v.ownBlock with
  | none => exact .inl rfl
  | some g =>
    refine .inr fun he => ?_
    obtain ⟨C, h1⟩ := h.blk hv
    obtain ⟨C', h2⟩ := h'.blk he.symm
    rw [h1] at h2
    injection h2 with h2
    injection h2 with _ h3
    exact hne h3

/-- What is asked of a slice type T of elements E. -/
structure El (P : Program) (t e : TypeId) (z : Value) (by_ : Nat) : Prop where
  sl : P.underlying t = some (.slice e)
  info : ∃ i, P.info? e = some i ∧ i.zero = some z ∧ i.size = 1 ∧ i.bytes = by_
  one : z.cells.size = 1

theorem run_app {P : Program} {t e : TypeId} {z : Value} {by_ : Nat} (hE : El P t e z by_) (ty : TypeId) (w : World) (base : Nat) (v : Value) (cs : List Value) (hown : Own w base e v cs) (A : Option Addr) (c : Nat) (ds : List Value) (hr : Rd w A ds)
    (h1 : ∀ u ∈ ds, u.oneCell' = true) (h63 : cs.length + ds.length ≤ 9223372036854775807) (hsz : (cs.length + ds.length) * by_ ≤ 140737488355328) (hbase : base ≤ w.heap.size) :
    ∃ v' w', (Builtin.append_ #[t, t] ty #[v, .slice A ds.length c]).run P w = .ok v' w' ∧ Own w' base e v' (cs ++ ds) ∧ w.grownBy w' v.ownBlock ∧ (v'.ownBlock = v.ownBlock ∨ v'.ownBlock = some w.heap.size) := by
  obtain ⟨i0, hi, hz0, hz1, hz2⟩ := hE.info
  rcases A with _ | ad
  · have ht0 : ds.length = 0 := by
      rcases Nat.eq_zero_or_pos ds.length with h0 | h0
      · exact h0
      · obtain ⟨b, o, e, _⟩ := hr h0; cases e
    have htn : ds = [] := List.eq_nil_of_length_eq_zero ht0
    subst htn
    refine ⟨v, w, ?_, by rw [List.append_nil]; exact hown, ⟨rfl, rfl, rfl, Nat.le_refl _, fun _ _ _ => rfl⟩, .inl rfl⟩
    rcases hown.2 with ⟨rfl, _⟩ | ⟨g, cap, cur, rfl, _, _, hnc, _⟩
    · simp [Builtin.append_, run_underlying hE.sl, sizeOf, typeInfo, hi, Builtin.lenOf, Builtin.firstCells]
    · simp [Builtin.append_, run_underlying hE.sl, sizeOf, typeInfo, hi, Builtin.lenOf, Builtin.firstCells, hnc, storeCells]
  · have hnews : ∀ j u, ds[j]? = some u → w.cell? (ad.add j) = some u := by
      intro j u hu
      obtain ⟨hj, _⟩ := List.getElem?_eq_some_iff.1 hu
      obtain ⟨b, o, e, _, hc⟩ := hr (by omega)
      injection e with e
      subst e
      rw [addAt]
      exact hc j u hu
    obtain ⟨v', w', g1, g2, g3, _, g5⟩ := run_append_own_at (P := P) w base t ty e i0 z 1 by_ hE.sl hi hz0 hz1 hz2 hE.one (by decide) v cs.length cs hown ad ds.length c ds (by omega) hnews h1 (by unfold maxLen; omega) hsz hbase
    refine ⟨v', w', g1, ?_, g3, g5⟩
    unfold Own
    rw [List.length_append]
    exact g2

/-- At the operation, for the walk: plain, and inside a fence. -/
theorem wpList_app {P : Program} {t e : TypeId} {z : Value} {by_ : Nat} (hE : El P t e z by_) {w : World} {ops : Array Oper} {rest : List Oper} {o : Oper} {a : Act} {Q : Exit → Act → World → Prop} (hgd : Region.wanted o (yielded ops a.tmps) = true) (x y : Operand)
    (ho : o.op = .call { callee := .builtin .append, args := #[x, y], argTypes := #[t, t] })
    (base : Nat) (v : Value) (cs : List Value) (hx : a.eval x = v) (hown : Own w base e v cs) (A : Option Addr) (m c : Nat) (ds : List Value) (hy : a.eval y = .slice A m c) (hm : m = ds.length) (hr : Rd w A ds)
    (h1 : ∀ u ∈ ds, u.oneCell' = true) (h63 : cs.length + ds.length ≤ 9223372036854775807) (hsz : (cs.length + ds.length) * by_ ≤ 140737488355328) (hbase : base ≤ w.heap.size)
    (h : ∀ A' n' c' w', Own w' base e (.slice A' n' c') (cs ++ ds) → n' ≤ cs.length + ds.length → w.grownBy w' v.ownBlock → ((Value.slice A' n' c').ownBlock = v.ownBlock ∨ (Value.slice A' n' c').ownBlock = some w.heap.size) →
      wpList P ops Q rest (a.put o.dst (.slice A' n' c')) w') : wpList P ops Q (o :: rest) a w := by
  subst hm
  refine wpList_step fun K hK => ?_
  rw [if_pos hgd]
  obtain ⟨v', w', h2, h3, h4, h5⟩ := run_app hE o.type w base v cs hown A c ds hr h1 h63 hsz hbase
  obtain ⟨A', c', rfl, _⟩ := h3.form
  unfold Oper.wp execOp
  simp only [ho, resolve, invoke, builtin, Sem.run_bind, Sem.run_pure, Result.andThen_ok, List.map_toArray, List.map_cons, List.map_nil, hx, hy, h2]
  exact hK _ _ (h A' _ c' w' h3 (by rw [List.length_append]; exact Nat.le_refl _) h4 h5)
theorem wpListIn_app {F : Fence} {n : Nat} {P : Program} {t e : TypeId} {z : Value} {by_ : Nat} (hE : El P t e z by_) {w : World} {ops : Array Oper} {rest : List Oper} {o : Oper} {a : Act} {Q : Exit → Act → World → Prop} (hgd : Region.wanted o (yielded ops a.tmps) = true) (x y : Operand)
    (ho : o.op = .call { callee := .builtin .append, args := #[x, y], argTypes := #[t, t] })
    (base : Nat) (v : Value) (cs : List Value) (hx : a.eval x = v) (hown : Own w base e v cs) (A : Option Addr) (m c : Nat) (ds : List Value) (hy : a.eval y = .slice A m c) (hm : m = ds.length) (hr : Rd w A ds)
    (h1 : ∀ u ∈ ds, u.oneCell' = true) (h63 : cs.length + ds.length ≤ 9223372036854775807) (hsz : (cs.length + ds.length) * by_ ≤ 140737488355328) (hbase : base ≤ w.heap.size)
    (h : ∀ A' n' c' w', Own w' base e (.slice A' n' c') (cs ++ ds) → n' ≤ cs.length + ds.length → w.grownBy w' v.ownBlock → ((Value.slice A' n' c').ownBlock = v.ownBlock ∨ (Value.slice A' n' c').ownBlock = some w.heap.size) →
      wpListIn F n P ops Q rest (a.put o.dst (.slice A' n' c')) w') : wpListIn F n P ops Q (o :: rest) a w := by
  subst hm
  refine wpListIn_step fun K hK => ?_
  rw [if_pos hgd]
  obtain ⟨v', w', h2, h3, h4, h5⟩ := run_app hE o.type w base v cs hown A c ds hr h1 h63 hsz hbase
  obtain ⟨A', c', rfl, _⟩ := h3.form
  unfold Oper.wpIn
  refine ⟨?_, ?_⟩
  · simp [Oper.about, ho, resolve, Target.leads, Sem.run_pure]
  · rw [Oper.semAt_plain F _ _ (by rw [ho]; intro c hc'; cases hc')]
    simp only [execOp, ho, resolve, invoke, builtin, Sem.run_bind, Sem.run_pure, Result.andThen_ok, List.map_toArray, List.map_cons, List.map_nil, hx, hy, h2]
    exact hK _ _ (h A' _ c' w' h3 (by rw [List.length_append]; exact Nat.le_refl _) h4 h5)

theorem ret_nat {k : IntKind} {a b : Nat} (h : a = b) : Ending.returned (.int k (a : Int)) = .returned (.int k (b : Int)) := by rw [h]
theorem val_nat {k : IntKind} {a b : Nat} (h : a = b) : Value.int k (a : Int) = .int k (b : Int) := by rw [h]
theorem val_int {k : IntKind} {a b : Int} (h : a = b) : Value.int k a = .int k b := by rw [h]
def b8 (x : UInt8) : Value := .int .u8 (x.toNat : Int)
def u32v (n : Nat) : Value := .int .u32 (n : Int)
def str (l : List UInt8) : Value := .string ⟨l.toArray⟩
theorem one_b8 (l : List UInt8) : ∀ u ∈ l.map b8, u.oneCell' = true := by
  intro u hu; obtain ⟨x, _, rfl⟩ := List.mem_map.1 hu; rfl
theorem one_str (l : List (List UInt8)) : ∀ u ∈ l.map str, u.oneCell' = true := by
  intro u hu; obtain ⟨x, _, rfl⟩ := List.mem_map.1 hu; rfl
theorem byte_lt (x : UInt8) : x.toNat < 256 := x.toNat_lt
theorem byte_nat (n : Nat) : ((UInt8.ofNat n).toNat : Int) = ((n % 256 : Nat) : Int) := by simp
end Go.Proofs.YtagmldkcogidgaaGreatDoor.L
