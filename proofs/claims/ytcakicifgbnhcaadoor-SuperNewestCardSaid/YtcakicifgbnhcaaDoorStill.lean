/- A call of a Go function that only answers (the world is as it was) may be taken first in a region that draws its order. -/
import Derived.OrdersHeld
namespace Go.Proofs.YtcakicifgbnhcaaDoor
open Go

section
variable {P : Program} {ops : Array Oper} {Q : Exit → Act → World → Prop} {md : Region.Mode} {S : World → Prop}

/-- in state a, in every world, the operation o is a call of a function that answers v and leaves the world as it is -/
def Still (P : Program) (ops : Array Oper) (o : Oper) (v : Value) (a : Act) : Prop :=
  Region.wanted o (yielded ops a.tmps) = true ∧ ∀ w, ∃ f args, (execOp a.eval o).run P w = .ok (.enter f args) w ∧ Calls P f args w fun e w' => e = .returned v ∧ w = w'

theorem Still.turn {o : Oper} {v : Value} {a b : Act} (h : Still P ops o v a) (e1 : execOp b.eval o = execOp a.eval o)
    (e2 : Region.wanted o (yielded ops b.tmps) = Region.wanted o (yielded ops a.tmps)) : Still P ops o v b := ⟨e2.trans h.1, fun w => by rw [e1]; exact h.2 w⟩

theorem Still.step {o : Oper} {v : Value} {a : Act} {i : Nat} {K : Act → World → Prop} {w : World} (h : Still P ops o v a) (ho : ops[i]? = some o) (hK : K (a.put o.dst v) w) : wpOp P ops Q i K a w := by
  obtain ⟨h1, h2⟩ := h
  obtain ⟨f, args, hr, hc⟩ := h2 w
  simp only [wpOp, ho, h1, if_true, Oper.wp, hr, Oper.upon]
  exact .inl (hc.mono fun e w' hh => by obtain ⟨rfl, rfl⟩ := hh; exact hK)

/-- what another operation does is the same, whether the call's answer lies there or not -/
theorem Still.past {o q : Oper} {v : Value} {j : Nat} {K : Act → World → Prop} {a : Act} {w : World} (hy : Still P ops o v a) (hq : ops[j]? = some q) (hap : o.apart ops q = true)
    (ho : ∀ cs b, o.op ≠ .select cs b) (hs : ∀ cs b, q.op ≠ .select cs b) (hQ : ∀ c a w, Q (.panic c) (a.put o.dst v) w → Q (.panic c) a w)
    (h : wpOp P ops Q j K (a.put o.dst v) w) : wpOp P ops Q j (fun b w' => Still P ops o v b ∧ K (b.put o.dst v) w') a w := by
  obtain ⟨p1, p2, p3⟩ := Oper.apart_spec hap
  have go : ∀ (b : Act) (u : Value) (w' : World), Still P ops o v b → K ((b.put o.dst v).put q.dst u) w' → Still P ops o v (b.put q.dst u) ∧ K ((b.put q.dst u).put o.dst v) w' := fun b u w' hb hk =>
    ⟨hb.turn (execOp_put o ho b q.dst u p3) (wanted_put o b q.dst u p3), by rw [← Act.put_comm b v u p2]; exact hk⟩
  have e0 : execOp (a.put o.dst v).eval q = execOp a.eval q := execOp_put q hs a o.dst v p1
  simp only [wpOp, hq, wanted_put q a o.dst v p1] at h ⊢
  by_cases hw : Region.wanted q (yielded ops a.tmps) = true
  · simp only [hw, if_true] at h ⊢
    rcases h with h | ⟨h, hl⟩
    · refine .inl ?_
      simp only [Oper.wp, e0] at h ⊢
      rcases hr : (execOp a.eval q).run P w with ⟨n, w'⟩ | ⟨x, w'⟩
      · rw [hr] at h
        cases n with
        | value u => exact go _ _ _ hy h
        | skip => exact go _ _ _ hy h
        | defer d =>
          refine go { a with defers := d :: a.defers } _ _ (hy.turn rfl rfl) ?_
          rw [← Act.put_defers]
          exact h
        | enter f args =>
          refine Calls.mono h fun e w'' he => ?_
          cases e with
          | returned u => exact go _ _ _ hy he
          | panicked c => exact hQ _ _ _ he
          | outgrown => exact he
        | row r args => exact Rows.mono h fun u w'' he => go _ _ _ hy he
        | _ => exact h
      · rw [hr] at h
        cases x with
        | panic u => exact hQ _ _ _ h
        | _ => exact h
    · refine .inr ⟨?_, hl⟩
      unfold Oper.asks at h ⊢
      rw [e0] at h
      exact h
  · simp only [hw] at h ⊢
    exact go _ _ _ hy h

theorem still_first {i : Nat} {o : Oper} {v : Value} (hi : ops[i]? = some o) (hsel : ∀ (j : Nat) (q : Oper) cs b, ops[j]? = some q → q.op ≠ .select cs b)
    (hQ : ∀ c a w, Q (.panic c) (a.put o.dst v) w → Q (.panic c) a w) (n : Nat) :
    ∀ (listed : Array Bool) (a : Act) (w : World),
      (∀ j q, ops[j]? = some q → j ≠ i → listed.getD j true = false → (∀ e ∈ q.after, Region.binds md e = true → e.on ≠ i) → o.apart ops q = true) →
      i ∈ Region.ready md ops listed → Still P ops o v a → S w →
      wpAnyH P md ops Q S n (listed.setIfInBounds i true) (a.put o.dst v) w → wpAnyH P md ops Q S (n + 1) listed a w := by
  induction n with
  | zero =>
    intro l a w _ hr hy hS H
    refine ⟨fun h => absurd hr (by rw [h]; simp), fun j hj => ?_⟩
    by_cases e : j = i
    · exact hy.step (e ▸ hi) (e ▸ ⟨hS, H⟩)
    · exact absurd (ready_mono hj e) (by rw [H.1]; simp)
  | succ n ih =>
    intro l a w hfree hr hy hS H
    refine ⟨fun h => absurd hr (by rw [h]; simp), fun j hj => ?_⟩
    by_cases e : j = i
    · exact hy.step (e ▸ hi) (e ▸ ⟨hS, H⟩)
    · obtain ⟨hun, q, hq, hall⟩ := mem_ready.1 hj
      have h0 := (mem_ready.1 hr).1
      have hlt : i < l.size := by
        rcases Nat.lt_or_ge i l.size with h' | h'
        · exact h'
        · simp [Array.getElem?_eq_none h'] at h0
      have hno : ∀ e ∈ q.after, Region.binds md e = true → e.on ≠ i := fun x hx hb hxi => by
        have := hall x hx hb
        rw [hxi] at this
        simp [hlt] at h0 this
        rw [h0] at this
        cases this
      have h2 := hy.past hq (hfree j q hq e hun hno) (fun cs b => hsel i o cs b hi) (fun cs b => hsel j q cs b hq) hQ (H.2 j (ready_mono hj e))
      refine wpOp_mono (fun b w' hb => ⟨hb.2.1, ih (l.setIfInBounds j true) b w' ?_ (ready_mono hr (Ne.symm e)) hb.1 hb.2.1 ?_⟩) h2
      · intro k q' hk hki hun' hno'
        refine hfree k q' hk hki ?_ hno'
        by_cases hjk : j = k
        · exact hjk ▸ hun
        · rw [getD_set_ne true hjk] at hun'; exact hun'
      · rw [Array.setIfInBounds_comm _ _ e]
        exact hb.2.2

/-- the move of a walk: the call number i is taken first -/
theorem still_take {i : Nat} {o : Oper} {v : Value} {n : Nat} {listed : Array Bool} {a : Act} {w : World} (hi : ops[i]? = some o)
    (hs : Region.noSelect ops = true) (hf : Region.free md ops listed i = true) (hr : (Region.ready md ops listed).contains i = true)
    (hQ : ∀ c a w, Q (.panic c) (a.put o.dst v) w → Q (.panic c) a w) (hy : Still P ops o v a) (hS : S w)
    (h : wpAnyH P md ops Q S n (listed.setIfInBounds i true) (a.put o.dst v) w) : wpAnyH P md ops Q S (n + 1) listed a w :=
  still_first hi (Region.noSelect_spec hs) hQ n listed a w (Region.free_spec hi hf) (by simpa using hr) hy hS h

end
end Go.Proofs.YtcakicifgbnhcaaDoor
