/- Chains of events as plain functions: the chains, what is tried in them, their verdicts. -/
namespace Go.Proofs.Chn

/-- a chain: its first event, the place behind its last one, whether it is open -/
structure Ch where
  f : Nat
  t : Nat
  o : Bool
/-- the chains of the events from place i on, where the chain at hand begins at f -/
def chs : Nat → Nat → List Bool → List Ch
  | _, _, [] => []
  | f, i, b :: l => if b = true ∧ l ≠ [] then chs f (i + 1) l else ⟨f, i + 1, b⟩ :: chs (i + 1) (i + 1) l
theorem chs_ok (l : List Bool) : ∀ f i, f ≤ i → ∀ c ∈ chs f i l, f ≤ c.f ∧ c.f < c.t ∧ c.t ≤ i + l.length := by
  induction l with
  | nil => intro f i _ c hc; cases hc
  | cons b l ih =>
    intro f i hf c hc
    rw [chs] at hc
    split at hc
    · have := ih f (i + 1) (by omega) c hc
      simp only [List.length_cons]; omega
    · rcases List.mem_cons.1 hc with rfl | hc
      · simp only [List.length_cons]; omega
      · have := ih (i + 1) (i + 1) (by omega) c hc
        simp only [List.length_cons]; omega
theorem chs_len (L : List Bool) : ∀ f i, (chs f i L).length ≤ L.length := by
  induction L with
  | nil => intro f i; simp [chs]
  | cons b l ih =>
    intro f i
    rw [chs]
    split
    · have := ih f (i + 1); simp only [List.length_cons]; omega
    · have := ih (i + 1) (i + 1); simp only [List.length_cons]; omega
theorem chs_at (L : List Bool) (f i : Nat) (h : i < L.length) : chs f i (L.drop i) = if L[i] = true ∧ i + 1 < L.length then chs f (i + 1) (L.drop (i + 1)) else ⟨f, i + 1, L[i]⟩ :: chs (i + 1) (i + 1) (L.drop (i + 1)) := by
  rw [List.drop_eq_getElem_cons h, chs]
  have e : (L.drop (i + 1) ≠ []) ↔ i + 1 < L.length := by
    rw [ne_eq, List.drop_eq_nil_iff]; omega
  simp only [e]
theorem chs_end (L : List Bool) (f i : Nat) (h : L.length ≤ i) : chs f i (L.drop i) = [] := by
  rw [List.drop_eq_nil_iff.2 h, chs]

/-- the first event that fails, of n from i on -/
def bad (V : Nat → Nat) : Nat → Nat → Option Nat
  | _, 0 => none
  | i, n + 1 => if V i ≠ 0 then some i else bad V (i + 1) n
/-- which of them are tried -/
def tried (V : Nat → Nat) : Nat → Nat → List Int
  | _, 0 => []
  | i, n + 1 => (i : Int) :: if V i ≠ 0 then [] else tried V (i + 1) n
/-- the verdicts of n events from f on, of which that at place a fell with v -/
def fell (f n a v : Nat) : List (Nat × Nat) := (List.range' f n).map fun i => (i, if i = a then v else 1)
def res1 (V : Nat → Nat) (c : Ch) : List (Nat × Nat) :=
  if c.o = true then fell c.f (c.t - c.f) (c.t - 1) 2 else match bad V c.f (c.t - c.f) with
    | none => []
    | some a => fell c.f (c.t - c.f) a (V a)
def act1 (V : Nat → Nat) (c : Ch) : List Int :=
  if c.o = true then [] else (if 1 < c.t - c.f then [-1] else []) ++ tried V c.f (c.t - c.f) ++ (if (bad V c.f (c.t - c.f)).isSome = true ∧ 1 < c.t - c.f then [-2] else [])
def results (V : Nat → Nat) (L : List Ch) : List (Nat × Nat) := L.flatMap (res1 V)
def acts (V : Nat → Nat) (L : List Ch) : List Int := L.flatMap (act1 V)
theorem results_snoc (V : Nat → Nat) (L : List Ch) (c : Ch) : results V (L ++ [c]) = results V L ++ res1 V c := by simp [results]
theorem acts_snoc (V : Nat → Nat) (L : List Ch) (c : Ch) : acts V (L ++ [c]) = acts V L ++ act1 V c := by simp [acts]
theorem fell_len (f n a v : Nat) : (fell f n a v).length = n := by simp [fell]
theorem fell_succ (f n a v : Nat) : fell f (n + 1) a v = fell f n a v ++ [(f + n, if f + n = a then v else 1)] := by simp [fell, List.range'_1_concat]
theorem bad_some {V : Nat → Nat} : ∀ {n i a : Nat}, bad V i n = some a → i ≤ a ∧ a < i + n ∧ V a ≠ 0
  | 0, _, _, h => by cases h
  | n + 1, i, a, h => by
    rw [bad] at h
    split at h
    · cases h; next h0 => exact ⟨Nat.le_refl _, by omega, h0⟩
    · obtain ⟨h1, h2, h3⟩ := bad_some h
      exact ⟨by omega, by omega, h3⟩
theorem tried_len (V : Nat → Nat) : ∀ n i, (tried V i n).length ≤ n
  | 0, _ => Nat.le_refl _
  | n + 1, i => by
    rw [tried, List.length_cons]
    split
    · simp
    · have := tried_len V n (i + 1); omega
theorem acts_len (V : Nat → Nat) (l : List Bool) : ∀ f i, f ≤ i → (acts V (chs f i l)).length ≤ 3 * (i + l.length - f) := by
  have h1 : ∀ c : Ch, c.f < c.t → (act1 V c).length ≤ 3 * (c.t - c.f) := fun c hc => by
    unfold act1
    split
    · simp
    · have := tried_len V (c.t - c.f) c.f
      rw [List.length_append, List.length_append]
      split <;> split <;> simp <;> omega
  induction l with
  | nil => intro f i _; simp [chs, acts]
  | cons b l ih =>
    intro f i hf
    rw [chs]
    split
    · have := ih f (i + 1) (by omega)
      simp only [List.length_cons]; omega
    · have := ih (i + 1) (i + 1) (by omega)
      have h2 := h1 ⟨f, i + 1, b⟩ (by simp; omega)
      simp only [acts, List.flatMap_cons, List.length_append, List.length_cons] at *
      omega
theorem results_len (V : Nat → Nat) (l : List Bool) : ∀ f i, f ≤ i → (results V (chs f i l)).length ≤ i + l.length - f := by
  have h1 : ∀ c : Ch, (res1 V c).length ≤ c.t - c.f := fun c => by
    unfold res1
    split
    · rw [fell_len]; omega
    · split
      · simp
      · rw [fell_len]; omega
  induction l with
  | nil => intro f i _; simp [chs, results]
  | cons b l ih =>
    intro f i hf
    rw [chs]
    split
    · have := ih f (i + 1) (by omega)
      simp only [List.length_cons]; omega
    · have := ih (i + 1) (i + 1) (by omega)
      have h2 := h1 ⟨f, i + 1, b⟩
      simp only [results, List.flatMap_cons, List.length_append, List.length_cons] at *
      omega
end Go.Proofs.Chn
