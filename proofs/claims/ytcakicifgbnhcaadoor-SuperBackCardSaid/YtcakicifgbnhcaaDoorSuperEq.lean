/- Two supers of the same cells are equal; the laws of a walk for whole supers. -/
import Derived.Test.YtcakicifgbnhcaaDoorSuperGen
import Derived.DeepKeys
namespace Go.Proofs.YtcakicifgbnhcaaDoor
open Go.RowKit Pgp
theorem fs53 : Tryd.prog.underlying 53 = some (.struct (Tryd.prog.fieldsOf 53)) := by kernel_rfl
theorem eq53 (d : Nat) (a b c : Int) (W : World) : (Op.equalIn (d + 2) 53 (.agg #[.int .u32 a, .int .u32 b, .int .u32 c]) (.agg #[.int .u32 a, .int .u32 b, .int .u32 c])).run Tryd.prog W = .ok true W := by
  rw [run_equalIn_struct W (d + 1) 53 _ _ fs53 (by kernel_rfl)]
  go_simp
theorem eq54 (d : Nat) (A : Array Value) (h : ∀ k < 8, ∃ a b c : Int, A.extract (k * 3) (k * 3 + 3) = #[.int .u32 a, .int .u32 b, .int .u32 c]) (W : World) : (Op.equalIn (d + 3) 54 (.agg A) (.agg A)).run Tryd.prog W = .ok true W := by
  obtain ⟨i, hi⟩ := info_of_underlying Tryd.underlying53
  rw [run_equalIn_array W (d + 2) A A Tryd.underlying54 hi]
  have hc : Tryd.prog.cellsOf 53 = 3 := by kernel_rfl
  rw [hc]
  have key : ∀ is : List Nat, (∀ k ∈ is, k < 8) → (Op.eqItems (d + 2) 53 3 A A is).run Tryd.prog W = .ok true W := by
    intro is
    induction is with
    | nil => intro _; simp [Op.eqItems]
    | cons k is ih =>
      intro hk
      obtain ⟨a, b, c, e⟩ := h k (hk k (by simp))
      have hp : (part 53 A (k * 3)).run Tryd.prog W = .ok (.agg #[.int .u32 a, .int .u32 b, .int .u32 c]) W := by
        simp [part, isAgg, run_underlying Tryd.underlying53, e]
      simp only [Op.eqItems, Sem.run_bind, hp, Result.andThen_ok, eq53]
      simpa using ih fun k hk' => hk k (by simp [hk'])
  exact key _ (by simp)
theorem fs56 : Tryd.prog.underlying 56 = some (.struct (Tryd.prog.fieldsOf 56)) := by kernel_rfl
theorem eq56 (q : Nat) (r : List Nat) (hr : r.length = 27) (W : World) : (Op.equalIn 10000 56 (.agg (SV q r).toArray) (.agg (SV q r).toArray)).run Tryd.prog W = .ok true W := by
  have e4 : (SV q r).toArray.extract 4 28 = (U (r.drop 3)).toArray := by
    have : (SV q r).drop 4 = U (r.drop 3) := by simp [SV, U]
    rw [List.extract_toArray, ← this]
    simp [List.extract, List.take_of_length_le, SV_len q r hr]
  have h54 : ∀ W, (Op.equalIn 9999 54 (.agg (U (r.drop 3)).toArray) (.agg (U (r.drop 3)).toArray)).run Tryd.prog W = .ok true W := eq54 9996 (U (r.drop 3)).toArray (fun k hk => ⟨_, _, _, U_ext r k hr hk⟩)
  rw [run_equalIn_struct W 9999 56 _ _ fs56 (by kernel_rfl)]
  match r, hr with
  | a :: b :: c :: t, h =>
    generalize hU : (U ((a :: b :: c :: t).drop 3)).toArray = UU at *
    generalize hA : (SV q (a :: b :: c :: t)).toArray = A at *
    have g0 : A[0]? = some (.int .u64 (q : Int)) := by rw [← hA]; rfl
    have g1 : A[1]? = some (.int .u32 (a : Int)) := by rw [← hA]; rfl
    have g2 : A[2]? = some (.int .u32 (b : Int)) := by rw [← hA]; rfl
    have g3 : A[3]? = some (.int .u32 (c : Int)) := by rw [← hA]; rfl
    clear hA hU
    go_simp

/-! the laws of a walk, with guards -/
section
variable {ops : Array Oper} {rest : List Oper} {op : Oper} {a : Act} {w : World} {Q : Exit → Act → World → Prop}
theorem wl_step (hw : Region.wanted op (yielded ops a.tmps) = true) (h : ∀ K : Act → World → Prop, (∀ a w, wpList Tryd.prog ops Q rest a w → K a w) → op.wp Tryd.prog a w K Q) : wpList Tryd.prog ops Q (op :: rest) a w :=
  wpList_step fun K hK => by rw [if_pos hw]; exact h K hK
theorem wl_ld (hw : Region.wanted op (yielded ops a.tmps) = true) (x : Operand) (ho : op.op = .load 56 x) (B q : Nat) (r : List Nat) (hx : a.eval x = .pointer (some ⟨B, 0, none⟩)) (hS : Sup w B q r) (hr : r.length = 27)
    (h : wpList Tryd.prog ops Q rest (a.put op.dst (.agg (SV q r).toArray)) w) : wpList Tryd.prog ops Q (op :: rest) a w := by
  refine wl_step hw fun K hK => ?_
  unfold Oper.wp execOp
  simp only [ho, hx, Sem.run_bind, Sem.run_pure, Result.andThen_ok, hS.load hr]
  exact hK _ _ h
theorem guard56 : Tryd.prog.eqGuardType Tryd.prog.depth 56 = false := by kernel_rfl
theorem wl_eq (hw : Region.wanted op (yielded ops a.tmps) = true) (x y : Operand) (z : TypeId) (ho : op.op = .binOp .eql 56 x y z) (q : Nat) (r : List Nat) (hx : a.eval x = .agg (SV q r).toArray) (hy : a.eval y = .agg (SV q r).toArray) (hr : r.length = 27)
    (h : wpList Tryd.prog ops Q rest (a.put op.dst (.bool true)) w) : wpList Tryd.prog ops Q (op :: rest) a w := by
  refine wl_step hw fun K hK => ?_
  unfold Oper.wp execOp
  simp only [ho, hx, hy, Sem.run_bind, Sem.run_pure, Result.andThen_ok, run_eqGuard_agg _ _ _ _ _ _ _ guard56, run_eql_struct, eq56 q r hr]
  exact hK _ _ h
theorem wl_ne (hw : Region.wanted op (yielded ops a.tmps) = true) (x y : Operand) (z : TypeId) (ho : op.op = .binOp .neq 56 x y z) (q : Nat) (r : List Nat) (hx : a.eval x = .agg (SV q r).toArray) (hy : a.eval y = .agg (SV q r).toArray) (hr : r.length = 27)
    (h : wpList Tryd.prog ops Q rest (a.put op.dst (.bool false)) w) : wpList Tryd.prog ops Q (op :: rest) a w := by
  refine wl_step hw fun K hK => ?_
  unfold Oper.wp execOp
  simp only [ho, hx, hy, Sem.run_bind, Sem.run_pure, Result.andThen_ok, run_eqGuard_agg _ _ _ _ _ _ _ guard56, run_neq_struct, eq56 q r hr]
  exact hK _ _ h
theorem wl_blt (hw : Region.wanted op (yielded ops a.tmps) = true) (parts : Array (Nat × Operand)) (ho : op.op = .build 56 parts) (C : Array Value) (hb : Tryd.prog.built 56 (parts.map fun (i, x) => (i, a.eval x)).toList = some C)
    (h : wpList Tryd.prog ops Q rest (a.put op.dst (.agg C)) w) : wpList Tryd.prog ops Q (op :: rest) a w := by
  refine wl_step hw fun K hK => ?_
  unfold Oper.wp execOp
  have h2 := run_build (P := Tryd.prog) w 56 (parts.map fun (i, x) => (i, a.eval x)) C hb
  simp only [ho, Sem.run_bind, Sem.run_pure, h2, Result.andThen_ok]
  exact hK _ _ h
end
section
variable {C : World → Prop} {ops : Array Oper} {o : Oper} {rest : List Oper} {a : Act} {Q : Act → Prop}
theorem quiet_eq (hw : Region.wanted o (yielded ops a.tmps) = true) (x y : Operand) (z : TypeId) (ho : o.op = .binOp .eql 56 x y z) (q : Nat) (r : List Nat) (hx : a.eval x = .agg (SV q r).toArray) (hy : a.eval y = .agg (SV q r).toArray) (hr : r.length = 27)
    (h : wpQuiet Tryd.prog ops C Q rest (a.put o.dst (.bool true))) : wpQuiet Tryd.prog ops C Q (o :: rest) a := by
  refine wpQuiet_step fun K hK => ?_
  rw [if_pos hw]
  refine ⟨.bool true, fun w hw' => ?_, hK _ h⟩
  unfold Oper.quietAt execOp
  simp only [ho, hx, hy, Sem.run_bind, Sem.run_pure, Result.andThen_ok, run_eqGuard_agg _ _ _ _ _ _ _ guard56, run_eql_struct, eq56 q r hr]
  exact ⟨rfl, rfl⟩
theorem quiet_blt (hw : Region.wanted o (yielded ops a.tmps) = true) (parts : Array (Nat × Operand)) (ho : o.op = .build 56 parts) (D : Array Value) (hb : Tryd.prog.built 56 (parts.map fun (i, x) => (i, a.eval x)).toList = some D)
    (h : wpQuiet Tryd.prog ops C Q rest (a.put o.dst (.agg D))) : wpQuiet Tryd.prog ops C Q (o :: rest) a := by
  refine wpQuiet_step fun K hK => ?_
  rw [if_pos hw]
  refine ⟨.agg D, fun w hw' => ?_, hK _ h⟩
  unfold Oper.quietAt execOp
  have h2 := run_build (P := Tryd.prog) w 56 (parts.map fun (i, x) => (i, a.eval x)) D hb
  simp only [ho, Sem.run_bind, Sem.run_pure, h2, Result.andThen_ok]
  exact ⟨rfl, rfl⟩
end
end Go.Proofs.YtcakicifgbnhcaaDoor
