/- Rows of bytes that the call itself made: what append, make and a cut leave of them. -/
import Derived.Test.YtagmldkcogidgaaGreatDoorBase
import Derived.Maps.AppendAt
import Derived.Deep.AppendLies
namespace Go.Proofs.YtagmldkcogidgaaGreatDoor
set_option maxRecDepth 100000
open Go.RowKit

theorem info5 : (Tryz.prog.info? 5).map (fun i => (i.zero, i.size, i.bytes)) = some (some (.int .u8 0), 1, 1) := by kernel_rfl

/-- The slice value v, made by the call in a block from base on, holds the bytes s. -/
def Own (w : World) (base : Nat) (v : Value) (s : ByteArray) : Prop := w.ownsRow base 5 1 v s.size (bcells s).toList

theorem bcells_size (s : ByteArray) : (bcells s).size = s.size := by unfold bcells; rw [Array.size_map]; rfl
theorem bcells_append (s t : ByteArray) : (bcells (s ++ t)).toList = (bcells s).toList ++ (bcells t).toList := by
  unfold bcells; simp [ByteArray.data_append]
theorem bcells_one (s : ByteArray) : ∀ u ∈ (bcells s).toList, u.oneCell' = true := by
  intro u hu
  unfold bcells at hu
  simp only [Array.toList_map, List.mem_map] at hu
  obtain ⟨x, _, rfl⟩ := hu
  rfl
theorem bcells_get (s : ByteArray) (j : Nat) (u : Value) (h : (bcells s).toList[j]? = some u) : ∃ hj : j < s.size, u = .int .u8 (s[j].toNat : Int) := by
  have hj : j < s.size := by
    rcases Nat.lt_or_ge j s.size with h' | h'
    · exact h'
    · rw [List.getElem?_eq_none (by rw [Array.length_toList, bcells_size]; exact h')] at h; cases h
  refine ⟨hj, ?_⟩
  rw [Array.getElem?_toList, bcells_at s j hj] at h
  exact (Option.some.inj h).symm

theorem addAt (b o i : Nat) : (⟨b, o, none⟩ : Addr).add i = ⟨b, o + i, none⟩ := by unfold Addr.add; split <;> simp_all

theorem Own.form {w : World} {base : Nat} {v : Value} {s : ByteArray} (h : Own w base v s) : ∃ A c, v = .slice A s.size c ∧ Rd w A s ∧ s.size ≤ c ∧ c ≤ 9223372036854775807 := by
  rcases h.2 with ⟨rfl, h0⟩ | ⟨g, cap, cur, rfl, hg, hh, hnc, hcm, hcs, htake⟩
  · exact ⟨none, 0, by rw [h0], fun h => by omega, by omega, by omega⟩
  · refine ⟨_, _, rfl, fun h0 => ⟨g, 0, rfl, (Array.getElem?_eq_some_iff.1 hh).1, fun i hi => ?_⟩, hnc, by unfold maxLen at hcm; omega⟩
    have := World.ownsRow.cells h (g := g) rfl i _ (by rw [Array.getElem?_toList]; exact bcells_at s i hi)
    rw [addAt] at this
    exact this
theorem Own.rd {w : World} {base : Nat} {A : Option Addr} {n c : Nat} {s : ByteArray} (h : Own w base (.slice A n c) s) : Rd w A s := by
  obtain ⟨A', c', e, h1, _, _⟩ := h.form
  injection e with e1 e2 e3
  subst e1; exact h1
theorem Own.lt {w : World} {base : Nat} {v : Value} {s : ByteArray} (h : Own w base v s) : ∀ k, v.ownBlock = some k → base ≤ k ∧ k < w.heap.size := World.ownsRow.lt h
theorem Own.kept {w w' : World} {base : Nat} {v : Value} {s : ByteArray} {row : Option Nat} (h : Own w base v s) (hg : w.grownBy w' row) (hne : v.ownBlock = none ∨ v.ownBlock ≠ row) : Own w' base v s := World.ownsRow.kept h hg hne
theorem Own.alloc {w : World} {base : Nat} {v : Value} {s : ByteArray} (h : Own w base v s) (o : Obj) : Own (w.alloc o) base v s := World.ownsRow.alloc h o
theorem Own.below {w w' : World} {base : Nat} {v : Value} {s : ByteArray} (h : Own w base v s) (hb : Below w.heap.size w w') : Own w' base v s :=
  h.kept (row := none) ⟨hb.os, hb.tape, hb.output, hb.size, fun k hk _ => hb.block k hk⟩ (by cases v.ownBlock <;> simp)
theorem Own.nil (w : World) (base : Nat) : Own w base (.slice none 0 0) ByteArray.empty := by
  have h : (bcells ByteArray.empty).toList = [] := by simp [bcells]
  unfold Own
  rw [h]
  exact World.ownsRow_nil w base 5 1
theorem Own.lit (w : World) (base : Nat) (s : ByteArray) (C : Array Value) (hC : C = bcells s) (hb : base ≤ w.heap.size) (hm : s.size ≤ 9223372036854775807) : Own (w.alloc (.cells C 5)) base (.slice (some ⟨w.heap.size, 0, none⟩) s.size s.size) s := by
  subst hC
  exact World.ownsRow_lit w (bcells s) s.size hb (by unfold maxLen; omega) (by rw [bcells_size]; omega)

/-- An append onto a row of the call's own, of whatever bytes can be read. -/
theorem run_app (w : World) (base : Nat) (v : Value) (s : ByteArray) (hown : Own w base v s) (A : Option Addr) (c : Nat) (t : ByteArray) (hr : Rd w A t) (hsz : s.size + t.size ≤ 140737488355328) (hbase : base ≤ w.heap.size) :
    ∃ A' c' w', (Builtin.append_ #[29, 29] 29 #[v, .slice A t.size c]).run Tryz.prog w = .ok (.slice A' (s ++ t).size c') w' ∧ Own w' base (.slice A' (s ++ t).size c') (s ++ t) ∧ w.grownBy w' v.ownBlock ∧
      ((Value.slice A' (s ++ t).size c').ownBlock = v.ownBlock ∨ (Value.slice A' (s ++ t).size c').ownBlock = some w.heap.size) := by
  obtain ⟨i0, hi, hz0, hz1, hz2⟩ := info_parts info5
  have fin : ∀ v' w', (Builtin.append_ #[29, 29] 29 #[v, .slice A t.size c]).run Tryz.prog w = .ok v' w' → w'.ownsRow base 5 1 v' (s.size + t.size) ((bcells s).toList ++ (bcells t).toList) → w.grownBy w' v.ownBlock →
      (v'.ownBlock = v.ownBlock ∨ v'.ownBlock = some w.heap.size) →
      ∃ A' c' w', (Builtin.append_ #[29, 29] 29 #[v, .slice A t.size c]).run Tryz.prog w = .ok (.slice A' (s ++ t).size c') w' ∧ Own w' base (.slice A' (s ++ t).size c') (s ++ t) ∧ w.grownBy w' v.ownBlock ∧
        ((Value.slice A' (s ++ t).size c').ownBlock = v.ownBlock ∨ (Value.slice A' (s ++ t).size c').ownBlock = some w.heap.size) := fun v' w' h1 h2 h3 h4 => by
    have ho : Own w' base v' (s ++ t) := by unfold Own; rw [bcells_append, ByteArray.size_append]; exact h2
    obtain ⟨A', c', rfl, _, _, _⟩ := ho.form
    exact ⟨A', c', w', h1, ho, h3, h4⟩
  rcases A with _ | ad
  · have ht0 : t.size = 0 := by
      rcases Nat.eq_zero_or_pos t.size with h0 | h0
      · exact h0
      · obtain ⟨b, o, e, _⟩ := hr h0; cases e
    have htn : (bcells t).toList = [] := List.eq_nil_of_length_eq_zero (by rw [Array.length_toList, bcells_size, ht0])
    refine fin v w ?_ (by rw [ht0, htn, List.append_nil]; exact hown) ⟨rfl, rfl, rfl, Nat.le_refl _, fun _ _ _ => rfl⟩ (.inl rfl)
    rw [ht0]
    rcases hown.2 with ⟨rfl, _⟩ | ⟨g, cap, cur, rfl, _, _, hnc, _⟩
    · simp [Builtin.append_, run_underlying Tryz.underlying29, sizeOf, typeInfo, hi, Builtin.lenOf, Builtin.firstCells]
    · simp [Builtin.append_, run_underlying Tryz.underlying29, sizeOf, typeInfo, hi, Builtin.lenOf, Builtin.firstCells, hnc, storeCells]
  · have hnews : ∀ j u, (bcells t).toList[j]? = some u → w.cell? (ad.add j) = some u := by
      intro j u hu
      obtain ⟨hj, rfl⟩ := bcells_get t j u hu
      obtain ⟨b, o, e, _, hc⟩ := hr (by omega)
      obtain rfl : ad = ⟨b, o, none⟩ := Option.some.inj e
      rw [addAt]
      exact hc j hj
    obtain ⟨v', w', h1, h2, h3, _, h5⟩ := run_append_own_at (P := Tryz.prog) w base 29 29 5 i0 (.int .u8 0) 1 1 Tryz.underlying29 hi hz0 hz1 hz2 rfl (by decide) v s.size _ hown ad t.size c (bcells t).toList
      (by rw [Array.length_toList, bcells_size, Nat.mul_one]) hnews (bcells_one t) (by unfold maxLen; omega) (by omega) hbase
    exact fin v' w' h1 h2 h3 h5

/-- The same, what comes out under a name of its own. -/
theorem app_bytes (w : World) (base : Nat) (v : Value) (s : ByteArray) (hown : Own w base v s) (A : Option Addr) (c : Nat) (t : ByteArray) (hr : Rd w A t) (hsz : s.size + t.size ≤ 140737488355328) (hbase : base ≤ w.heap.size) :
    ∃ A' c' u w', (Builtin.append_ #[29, 29] 29 #[v, .slice A t.size c]).run Tryz.prog w = .ok (.slice A' u.size c') w' ∧ Hid (u = s ++ t) ∧ u.size ≤ s.size + t.size ∧ Own w' base (.slice A' u.size c') u ∧ w.grownBy w' v.ownBlock ∧
      ((Value.slice A' u.size c').ownBlock = v.ownBlock ∨ (Value.slice A' u.size c').ownBlock = some w.heap.size) := by
  obtain ⟨A', c', w', h1, h2, h3, h4⟩ := run_app w base v s hown A c t hr hsz hbase
  exact ⟨A', c', s ++ t, w', h1, rfl, by rw [ByteArray.size_append]; exact Nat.le_refl _, h2, h3, h4⟩
/-- At the operation, for the walk. -/
theorem wpList_app {w : World} {ops : Array Oper} {rest : List Oper} {o : Oper} {a : Act} {Q : Exit → Act → World → Prop} (hgd : Region.wanted o (yielded ops a.tmps) = true) (x y : Operand)
    (ho : o.op = .call { callee := .builtin .append, args := #[x, y], argTypes := #[29, 29] }) (hty : o.type = 29)
    (base : Nat) (v : Value) (s : ByteArray) (hx : a.eval x = v) (hown : Own w base v s) (A : Option Addr) (c : Nat) (t : ByteArray) (hy : a.eval y = .slice A t.size c) (hr : Rd w A t)
    (hsz : s.size + t.size ≤ 140737488355328) (hbase : base ≤ w.heap.size)
    (h : ∀ A' c' u w', Hid (u = s ++ t) → u.size ≤ s.size + t.size → Own w' base (.slice A' u.size c') u → w.grownBy w' v.ownBlock → ((Value.slice A' u.size c').ownBlock = v.ownBlock ∨ (Value.slice A' u.size c').ownBlock = some w.heap.size) →
      wpList Tryz.prog ops Q rest (a.put o.dst (.slice A' u.size c')) w') : wpList Tryz.prog ops Q (o :: rest) a w := by
  refine wpList_step fun K hK => ?_
  rw [if_pos hgd]
  obtain ⟨A', c', u, w', h1, h2, h3, h4, h5, h6⟩ := app_bytes w base v s hown A c t hr hsz hbase
  unfold Oper.wp execOp
  simp only [ho, hty, resolve, invoke, builtin, Sem.run_bind, Sem.run_pure, Result.andThen_ok, List.map_toArray, List.map_cons, List.map_nil, hx, hy, h1]
  exact hK _ _ (h A' c' u w' h2 h3 h4 h5 h6)
end Go.Proofs.YtagmldkcogidgaaGreatDoor
