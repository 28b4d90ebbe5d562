/- A region that draws its order, inside a round of a range over a function: what the plain law shows of it holds there too. -/
import Derived.OrdersHeld
import Derived.OrdersIn
import Derived.Deep.RegionHeld
import Derived.OwnWalkIn
import Derived.RangeFuncCalls
namespace Go.Proofs.Ytpecleflhhbecaa
open Go

section
variable {P : Program} {ops : Array Oper} {Q : Exit → Act → World → Prop} {md : Region.Mode} {S : World → Prop} {n l : Nat}

theorem op_in_round {o : Oper} {a : Act} {w : World} {K : Act → World → Prop} (hd : ∀ c, o.op ≠ .defer c) (h : o.wp P a w K Q) : o.wpIn (Fence.wide.inRound l) n P a w K Q := by
  refine ⟨fun _ _ => trivial, ?_⟩
  rw [Oper.semAt_plain _ _ _ hd]
  unfold Oper.wp at h
  generalize (execOp a.eval o).run P w = r at h
  cases r with
  | ok x w' =>
    cases x with
    | value v => exact h
    | skip => exact h
    | defer d => exact h
    | enter f args => exact ⟨(fun hh => (by cases hh)), CallsIn.inRound l (callsIn_wide.2 h)⟩
    | row row args => exact ⟨(fun hh => (by cases hh)), fun c cs _ => (by
        obtain ⟨v, w2, r, s⟩ := h c cs
        exact ⟨v, w2, r, stepsIn_wide.2 s⟩)⟩
    | _ => exact h.elim
  | halt x w' => cases x <;> first | exact h | exact h.elim

theorem wpOp_in_round {i : Nat} {a : Act} {w : World} {K K' : Act → World → Prop} (hK : ∀ a w, K a w → K' a w) (hd : ∀ (o : Oper) (c : Call), ops[i]? = some o → o.op ≠ .defer c) (hq : ¬ LetsOut Q) (h : wpOp P ops Q i K a w) : wpOpIn (Fence.wide.inRound l) n P ops Q i K' a w := by
  refine wpOpIn_mono hK ?_
  unfold wpOp at h
  unfold wpOpIn
  cases ho : ops[i]? with
  | none => rw [ho] at h; exact h
  | some o =>
    rw [ho] at h
    dsimp only at h ⊢
    by_cases hw : Region.wanted o (yielded ops a.tmps) = true
    · rw [if_pos hw] at h ⊢
      exact op_in_round (fun c => hd o c ho) (h.resolve_right fun hh => hq hh.2)
    · rw [if_neg hw] at h ⊢
      exact ⟨fun _ _ => trivial, h⟩

theorem any_in_round (hd : ∀ (i : Nat) (o : Oper) (c : Call), ops[i]? = some o → o.op ≠ .defer c) (hq : ¬ LetsOut Q) : ∀ (fuel : Nat) (listed : Array Bool) (a : Act) (w : World), wpAny P md ops Q fuel listed a w → wpAnyIn (Fence.wide.inRound l) n P md ops Q fuel listed a w
  | 0, _, _, _, h => h
  | fuel + 1, _, _, _, h => ⟨h.1, fun i hi => wpOp_in_round (any_in_round hd hq fuel _) (fun o c => hd i o c) hq (h.2 i hi)⟩

def noDefer (ops : Array Oper) : Bool := ops.all fun o => match o.op with | .defer _ => false | _ => true
theorem noDefer_spec (h : noDefer ops = true) (i : Nat) (o : Oper) (c : Call) (ho : ops[i]? = some o) : o.op ≠ .defer c := by
  intro heq
  have := Array.all_eq_true_iff_forall_mem.1 h o (Array.mem_of_getElem? ho)
  simp [heq] at this

theorem region_in_round {F : Fence} (hF : F = Fence.wide) {id : Nat} {a : Act} {w : World} (hm : P.follows .mixedOrders = true) (hd : noDefer ops = true) (hq : ¬ LetsOut Q)
    (h : wpAnyH P .any ops Q S ops.size (Array.replicate ops.size false) a w.drew) : (Code.region id ops true).wpIn (F.inRound l) n P Q a w := by
  subst hF
  exact wpIn_region_any hm (any_in_round (noDefer_spec hd) hq _ _ _ _ (wpAny_of_held _ _ _ _ h))
end
end Go.Proofs.Ytpecleflhhbecaa
