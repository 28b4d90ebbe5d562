/- A drawn region whose loads are held by a condition that ends when its stores have come up: the condition speaks of what has come up, too. -/
import Derived.Test.YtagmldkcogidgaaGreatDoorDiskB
namespace Go.Proofs.YtagmldkcogidgaaGreatDoor
open Go.RowKit

section
variable {P : Program} {md : Region.Mode} {ops : Array Oper} {Q : Exit → Act → World → Prop} {C : Array Bool → World → Prop}

/-- Any order; behind each operation C is shown of what has come up and the world. -/
def anyC (P : Program) (md : Region.Mode) (ops : Array Oper) (Q : Exit → Act → World → Prop) (C : Array Bool → World → Prop) : Nat → Array Bool → Act → World → Prop
  | 0, l, a, w => Region.ready md ops l = [] ∧ Q .normal a w
  | n + 1, l, a, w => (Region.ready md ops l = [] → Q .normal a w) ∧
      ∀ j, j ∈ Region.ready md ops l → wpOp P ops Q j (fun a' w' => C (l.setIfInBounds j true) w' ∧ anyC P md ops Q C n (l.setIfInBounds j true) a' w') a w

theorem anyC_plain (n : Nat) : ∀ (l : Array Bool) (a : Act) (w : World), anyC P md ops Q C n l a w → wpAny P md ops Q n l a w := by
  induction n with
  | zero => exact fun _ _ _ h => h
  | succ n ih => exact fun l a w h => ⟨h.1, fun j hj => wpOp_mono (fun a' w' k => ih _ a' w' k.2) (h.2 j hj)⟩

/-- Whatever has come up has come behind what it waits for. -/
def Closed (md : Region.Mode) (ops : Array Oper) (l : Array Bool) : Prop := ∀ j o, ops[j]? = some o → l.getD j true = true → ∀ e ∈ o.after, Region.binds md e = true → l.getD e.on true = true
def closedB (md : Region.Mode) (ops : Array Oper) (l : Array Bool) : Bool :=
  (List.range ops.size).all fun j => !(l.getD j true) || ((ops[j]?).all fun o => o.after.toList.all fun e => !(Region.binds md e) || l.getD e.on true)
theorem closed_of {l : Array Bool} (h : closedB md ops l = true) : Closed md ops l := fun j o ho hl e he hb => by
  have hj : j < ops.size := (Array.getElem?_eq_some_iff.1 ho).1
  have h1 := List.all_eq_true.1 h j (List.mem_range.2 hj)
  rw [hl, ho] at h1
  have h2 : (o.after.toList.all fun e => !(Region.binds md e) || l.getD e.on true) = true := by simpa using h1
  have h3 := List.all_eq_true.1 h2 e (Array.mem_toList_iff.2 he)
  rw [hb] at h3
  simpa using h3
theorem listed_mono {l : Array Bool} {j k : Nat} (h : l.getD k true = true) : (l.setIfInBounds j true).getD k true = true := by
  by_cases e : j = k
  · subst e
    rcases Nat.lt_or_ge j l.size with h' | h'
    · simp [h']
    · simp
  · rwa [getD_set_ne true e]
theorem Closed.next {l : Array Bool} {j : Nat} (h : Closed md ops l) (hj : j ∈ Region.ready md ops l) : Closed md ops (l.setIfInBounds j true) := fun k o ho hl e he hb => by
  by_cases ek : j = k
  · subst ek
    obtain ⟨_, p, hp, hafter⟩ := mem_ready.1 hj
    rw [ho] at hp
    injection hp with hp
    subst hp
    have := hafter e he hb
    exact listed_mono (by
      rcases Nat.lt_or_ge e.on l.size with h' | h'
      · simpa [h'] using this
      · simp [Array.getElem?_eq_none h'])
  · rw [getD_set_ne true ek] at hl
    exact listed_mono (h k o ho hl e he hb)

/-- An operation that yields v whenever C holds and it has not come up. -/
def TellsC (P : Program) (md : Region.Mode) (ops : Array Oper) (C : Array Bool → World → Prop) (i : Nat) (o : Oper) (v : Value) (a : Act) : Prop :=
  YieldsIf P ops (fun w => ∃ l : Array Bool, Closed md ops l ∧ l.getD i true = false ∧ C l w) o v a

theorem unlisted {i : Nat} {l : Array Bool} (h : i ∈ Region.ready md ops l) : l.getD i true = false := (mem_ready.1 h).1

theorem takeC {i : Nat} {o : Oper} {v : Value} (hi : ops[i]? = some o) (hs : Region.noSelect ops = true) (hQ : ∀ c a w, Q (.panic c) (a.put o.dst v) w → Q (.panic c) a w)
    (hinv : ∀ l w, C (l.setIfInBounds i true) w ↔ C l w) (n : Nat) : ∀ (l : Array Bool) (a : Act) (w : World),
      (∀ j p, ops[j]? = some p → j ≠ i → l.getD j true = false → (∀ e ∈ p.after, Region.binds md e = true → e.on ≠ i) → o.apart ops p = true) →
      i ∈ Region.ready md ops l → Closed md ops l → TellsC P md ops C i o v a → C l w → anyC P md ops Q C n (l.setIfInBounds i true) (a.put o.dst v) w → anyC P md ops Q C (n + 1) l a w := by
  have hsel := Region.noSelect_spec hs
  induction n with
  | zero =>
    intro l a w _ hr hcl hy hC H
    refine ⟨fun h => absurd hr (by rw [h]; exact List.not_mem_nil), fun j hj => ?_⟩
    by_cases e : j = i
    · subst e
      exact YieldsIf.wpOp hi hy ⟨l, hcl, unlisted hr, hC⟩ ⟨(hinv l w).2 hC, H⟩
    · exact absurd (ready_mono hj e) (by rw [H.1]; exact List.not_mem_nil)
  | succ n ih =>
    intro l a w hfree hr hcl hy hC H
    refine ⟨fun h => absurd hr (by rw [h]; exact List.not_mem_nil), fun j hj => ?_⟩
    by_cases e : j = i
    · subst e
      exact YieldsIf.wpOp hi hy ⟨l, hcl, unlisted hr, hC⟩ ⟨(hinv l w).2 hC, H⟩
    · obtain ⟨hu, p, hp, hafter⟩ := mem_ready.1 hj
      have hwait : ∀ e ∈ p.after, Region.binds md e = true → e.on ≠ i := fun e he hb heq => by
        have h1 := hafter e he hb
        have h0 := unlisted hr
        rw [heq] at h1
        rcases Nat.lt_or_ge i l.size with h' | h'
        · simp [h'] at h0 h1
          rw [h0] at h1; cases h1
        · simp [Array.getElem?_eq_none h'] at h1
      have step := wpOp_putIf hp (hfree j p hp e hu hwait) (fun cs b => hsel i o cs b hi) (fun cs b => hsel j p cs b hp) hQ hy (H.2 j (ready_mono hj e))
      refine wpOp_mono (fun a' w' k => ?_) step
      obtain ⟨ky, kC, kH⟩ := k
      rw [Array.setIfInBounds_comm _ _ (Ne.symm e)] at kC kH
      have kC' := (hinv _ _).1 kC
      refine ⟨kC', ih (l.setIfInBounds j true) a' w' (fun m q hq hm hun hno => ?_) (ready_mono hr (Ne.symm e)) (hcl.next hj) ky kC' kH⟩
      refine hfree m q hq hm ?_ hno
      by_cases hjm : j = m
      · subst hjm; exact hu
      · rwa [getD_set_ne true hjm] at hun

theorem anyC_take {i : Nat} {o : Oper} {v : Value} {n : Nat} {l : Array Bool} {a : Act} {w : World} (hi : ops[i]? = some o) (hs : Region.noSelect ops = true) (hf : Region.free md ops l i = true) (hr : (Region.ready md ops l).contains i = true) (hcl : closedB md ops l = true)
    (hQ : ∀ c a w, Q (.panic c) (a.put o.dst v) w → Q (.panic c) a w) (hinv : ∀ l w, C (l.setIfInBounds i true) w ↔ C l w) (hy : TellsC P md ops C i o v a) (hC : C l w)
    (h : C l w → anyC P md ops Q C n (l.setIfInBounds i true) (a.put o.dst v) w) : anyC P md ops Q C (n + 1) l a w :=
  takeC hi hs hQ hinv n l a w (Region.free_spec hi hf) (by simpa using hr) (closed_of hcl) hy hC (h hC)
def EachC (P : Program) (md : Region.Mode) (ops : Array Oper) (Q : Exit → Act → World → Prop) (C : Array Bool → World → Prop) (n : Nat) (l : Array Bool) (a : Act) (w : World) (rs : List Nat) : Prop :=
  ∀ i ∈ rs, wpOp P ops Q i (fun a' w' => C (l.setIfInBounds i true) w' ∧ anyC P md ops Q C n (l.setIfInBounds i true) a' w') a w
theorem EachC.nil {n : Nat} {l : Array Bool} {a : Act} {w : World} : EachC P md ops Q C n l a w [] := fun _ h => by cases h
theorem EachC.cons {n : Nat} {l : Array Bool} {a : Act} {w : World} {i : Nat} {o : Oper} {rs : List Nat} (ho : ops[i]? = some o)
    (h : ∀ K : Act → World → Prop, Shut (∀ a w, C (l.setIfInBounds i true) w → (C (l.setIfInBounds i true) w → anyC P md ops Q C n (l.setIfInBounds i true) a w) → K a w) → if Region.wanted o (yielded ops a.tmps) = true then Oper.wp P o a w K Q else K (a.put o.dst undef) w)
    (hs : EachC P md ops Q C n l a w rs) : EachC P md ops Q C n l a w (i :: rs) := fun j hj => by
  rcases List.mem_cons.1 hj with rfl | hj
  · exact wpOp_step ho (fun K' hK => h K' (fun a w hS hW => hK a w ⟨hS, hW hS⟩))
  · exact hs j hj
theorem anyC_each {rs : List Nat} {n : Nat} {l : Array Bool} {a : Act} {w : World} (hr : Region.ready md ops l = rs) (hne : rs ≠ []) (h : EachC P md ops Q C n l a w rs) : anyC P md ops Q C (n + 1) l a w :=
  ⟨fun h0 => absurd (hr ▸ h0) hne, hr ▸ h⟩
theorem anyC_done {l : Array Bool} {a : Act} {w : World} (hr : Region.ready md ops l = []) (h : Q .normal a w) : ∀ n, anyC P md ops Q C n l a w
  | 0 => ⟨hr, h⟩
  | _ + 1 => ⟨fun _ => h, by rw [hr]; intro j hj; cases hj⟩
theorem anyC_start {id : Nat} {a : Act} {w : World} (hm : P.follows .mixedOrders = true) (hC : C (Array.replicate ops.size false) w.drew)
    (h : C (Array.replicate ops.size false) w.drew → anyC P .any ops Q C ops.size (Array.replicate ops.size false) a w.drew) : (Code.region id ops true).wp P Q a w :=
  wp_region_any hm (anyC_plain _ _ _ _ (h hC))

/-- Two facts, each of which ends with an operation's coming up. -/
def Two (i j : Nat) (F G : World → Prop) (l : Array Bool) (w : World) : Prop := (l.getD i true = false → F w) ∧ (l.getD j true = false → G w)
theorem Two.inv {i j k : Nat} {F G : World → Prop} (hi : k ≠ i) (hj : k ≠ j) (l : Array Bool) (w : World) : Two i j F G (l.setIfInBounds k true) w ↔ Two i j F G l w := by
  unfold Two
  rw [getD_set_ne true hi, getD_set_ne true hj]
def waitsB (md : Region.Mode) (ops : Array Oper) (i k : Nat) : Bool := (ops[i]?).any fun o => o.after.toList.any fun e => Region.binds md e && e.on == k
theorem waits_unlisted {i k : Nat} {l : Array Bool} (h : waitsB md ops i k = true) (hc : Closed md ops l) (hk : l.getD k true = false) : l.getD i true = false := by
  cases hi : l.getD i true with
  | false => rfl
  | true =>
    unfold waitsB at h
    cases ho : ops[i]? with
    | none => simp [ho] at h
    | some o =>
      rw [ho] at h
      obtain ⟨e, he, h2⟩ := List.any_eq_true.1 (show (o.after.toList.any fun e => Region.binds md e && e.on == k) = true from h)
      rw [Bool.and_eq_true, beq_iff_eq] at h2
      have := hc i o ho hi e (Array.mem_toList_iff.1 he) h2.1
      rw [h2.2, hk] at this
      cases this
theorem Two.left {i j k : Nat} {F G : World → Prop} {w : World} (hS : ∃ l : Array Bool, Closed md ops l ∧ l.getD k true = false ∧ Two i j F G l w) (h : waitsB md ops i k = true) : F w := by
  obtain ⟨l, hc, hk, h1, _⟩ := hS
  exact h1 (waits_unlisted h hc hk)
theorem Two.right {i j k : Nat} {F G : World → Prop} {w : World} (hS : ∃ l : Array Bool, Closed md ops l ∧ l.getD k true = false ∧ Two i j F G l w) (h : waitsB md ops j k = true) : G w := by
  obtain ⟨l, hc, hk, _, h2⟩ := hS
  exact h2 (waits_unlisted h hc hk)
end
end Go.Proofs.YtagmldkcogidgaaGreatDoor
