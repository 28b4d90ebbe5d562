/- Chains of events behind others: the plain law. -/
import Derived.Test.YtpecleflhhbecaaChainPlain
namespace Go.Proofs.Chn

def sh (n : Nat) (c : Ch) : Ch := ⟨c.f + n, c.t + n, c.o⟩
theorem chs_shift (n : Nat) (l : List Bool) : ∀ f i, chs (f + n) (i + n) l = (chs f i l).map (sh n) := by
  induction l with
  | nil => intro f i; simp [chs]
  | cons b l ih =>
    intro f i
    rw [chs, chs]
    split
    · have := ih f (i + 1)
      rw [show i + 1 + n = i + n + 1 by omega] at this
      exact this
    · have := ih (i + 1) (i + 1)
      rw [show i + 1 + n = i + n + 1 by omega] at this
      rw [List.map_cons, ← this]
      simp [sh]; omega
theorem chs_app (A B : List Bool) : ∀ f i, A ≠ [] → A.getLast? = some false → chs f i (A ++ B) = chs f i A ++ chs (i + A.length) (i + A.length) B := by
  induction A with
  | nil => intro f i h; exact absurd rfl h
  | cons b A ih =>
    intro f i _ hl
    cases A with
    | nil =>
      simp at hl
      subst hl
      simp [chs]
    | cons b' A' =>
      have hl' : (b' :: A').getLast? = some false := by simpa using hl
      rw [List.cons_append, chs, chs]
      by_cases hb : b = true
      · rw [if_pos ⟨hb, by simp⟩, if_pos ⟨hb, by simp⟩, ih f (i + 1) (by simp) hl']
        rw [show i + (b :: b' :: A').length = i + 1 + (b' :: A').length by simp only [List.length_cons]; omega]
      · rw [if_neg (fun h => hb h.1), if_neg (fun h => hb h.1), ih (i + 1) (i + 1) (by simp) hl']
        rw [show i + (b :: b' :: A').length = i + 1 + (b' :: A').length by simp only [List.length_cons]; omega]
        rfl
theorem bad_congr {V V' : Nat → Nat} : ∀ n i, (∀ j, i ≤ j → j < i + n → V' j = V j) → bad V' i n = bad V i n
  | 0, _, _ => rfl
  | n + 1, i, h => by
    rw [bad, bad, h i (by omega) (by omega), bad_congr n (i + 1) (fun j h1 h2 => h j (by omega) (by omega))]
theorem res1_congr {V V' : Nat → Nat} (c : Ch) (h : ∀ j, c.f ≤ j → j < c.t → V' j = V j) (hc : c.f ≤ c.t) : res1 V' c = res1 V c := by
  unfold res1
  have hb := bad_congr (V := V) (V' := V') (c.t - c.f) c.f (fun j h1 h2 => h j h1 (by omega))
  rw [hb]
  cases hbb : bad V c.f (c.t - c.f) with
  | none => rfl
  | some a =>
    obtain ⟨h1, h2, _⟩ := bad_some hbb
    dsimp only
    rw [h a h1 (by omega)]
def shr (n : Nat) (p : Nat × Nat) : Nat × Nat := (p.1 + n, p.2)
theorem bad_shift {V V' : Nat → Nat} (m : Nat) : ∀ n i, (∀ j, i ≤ j → j < i + n → V' (j + m) = V j) → bad V' (i + m) n = (bad V i n).map (· + m)
  | 0, _, _ => rfl
  | n + 1, i, h => by
    rw [bad, bad, h i (by omega) (by omega)]
    split
    · rfl
    · have := bad_shift m n (i + 1) (fun j h1 h2 => h j (by omega) (by omega))
      rw [show i + 1 + m = i + m + 1 by omega] at this
      exact this
theorem fell_shift (m f n a v : Nat) : fell (f + m) n (a + m) v = (fell f n a v).map (shr m) := by
  induction n with
  | zero => rfl
  | succ n ih =>
    rw [fell_succ, fell_succ, ih, List.map_append, List.map_singleton]
    congr 1
    simp only [shr, List.cons.injEq, Prod.mk.injEq, and_true]
    refine ⟨by omega, ?_⟩
    by_cases h : f + n = a
    · rw [if_pos h, if_pos (by omega)]
    · rw [if_neg h, if_neg (by omega)]
theorem res1_shift {V V' : Nat → Nat} (m : Nat) (c : Ch) (h : ∀ j, c.f ≤ j → j < c.t → V' (j + m) = V j) (hc : c.f < c.t) : res1 V' (sh m c) = (res1 V c).map (shr m) := by
  unfold res1 sh
  dsimp only
  rw [show c.t + m - (c.f + m) = c.t - c.f by omega]
  have hb := bad_shift (V := V) (V' := V') m (c.t - c.f) c.f (fun j h1 h2 => h j h1 (by omega))
  rw [hb]
  split
  · rw [show c.t + m - 1 = (c.t - 1) + m by omega, fell_shift]
  · cases hbb : bad V c.f (c.t - c.f) with
    | none => rfl
    | some a =>
      obtain ⟨h1, h2, _⟩ := bad_some hbb
      simp only [Option.map_some]
      rw [h a h1 (by omega), fell_shift]
/-- events' own verdicts -/
def vo (L : List (Bool × Nat)) (i : Nat) : Nat := (L.getD i (false, 0)).2
def lks (L : List (Bool × Nat)) : List Bool := L.map (·.1)
/-- what Run tells -/
def runs (L : List (Bool × Nat)) : List (Nat × Nat) := results (vo L) (chs 0 0 (lks L))
theorem flat_congr {α β : Type} (f g : α → List β) : ∀ l : List α, (∀ x ∈ l, f x = g x) → l.flatMap f = l.flatMap g
  | [], _ => rfl
  | a :: l, h => by rw [List.flatMap_cons, List.flatMap_cons, h a (by simp), flat_congr f g l (fun x hx => h x (by simp [hx]))]
theorem runs_app (A B : List (Bool × Nat)) (hA : A ≠ []) (hl : (lks A).getLast? = some false) : runs (A ++ B) = runs A ++ (runs B).map (shr A.length) := by
  unfold runs results
  have hlA : (lks A).length = A.length := by simp [lks]
  have e : lks (A ++ B) = lks A ++ lks B := by simp [lks]
  have hne : lks A ≠ [] := by simp [lks, hA]
  rw [e, chs_app (lks A) (lks B) 0 0 hne hl, List.flatMap_append, hlA]
  congr 1
  · refine flat_congr _ _ _ fun c hc => ?_
    have hk := chs_ok (lks A) 0 0 (Nat.le_refl _) c hc
    refine res1_congr c (fun j _ h2 => ?_) (by omega)
    unfold vo
    rw [List.getD_eq_getElem?_getD, List.getD_eq_getElem?_getD, List.getElem?_append_left (by omega)]
  · have := chs_shift A.length (lks B) 0 0
    rw [this, List.flatMap_map, List.map_flatMap]
    refine flat_congr _ _ _ fun c hc => ?_
    have hk := chs_ok (lks B) 0 0 (Nat.le_refl _) c hc
    refine res1_shift A.length c (fun j _ _ => ?_) hk.2.1
    unfold vo
    rw [List.getD_eq_getElem?_getD, List.getD_eq_getElem?_getD, List.getElem?_append_right (by omega), show j + A.length - A.length = j by omega]
theorem runs_len (L : List (Bool × Nat)) : (runs L).length ≤ L.length := by
  have := results_len (vo L) (lks L) 0 0 (Nat.le_refl _)
  have h2 : (lks L).length = L.length := by simp [lks]
  unfold runs
  omega
theorem fell_mem {f n a v : Nat} {p : Nat × Nat} (h : p ∈ fell f n a v) : f ≤ p.1 ∧ p.1 < f + n ∧ (p.2 = v ∨ p.2 = 1) := by
  unfold fell at h
  obtain ⟨i, hi, rfl⟩ := List.mem_map.1 h
  obtain ⟨k, hk, rfl⟩ := List.mem_range'.1 hi
  dsimp only
  refine ⟨by omega, by omega, ?_⟩
  split
  · exact .inl rfl
  · exact .inr rfl
theorem runs_bound (L : List (Bool × Nat)) (hb : ∀ x ∈ L, x.2 < 4294967296) : ∀ p ∈ runs L, p.1 < L.length ∧ p.2 < 4294967296 := by
  intro p hp
  unfold runs results at hp
  obtain ⟨c, hc, hp⟩ := List.mem_flatMap.1 hp
  have hk := chs_ok (lks L) 0 0 (Nat.le_refl _) c hc
  have h2 : (lks L).length = L.length := by simp [lks]
  have hv : ∀ a, vo L a < 4294967296 := fun a => by
    unfold vo
    rw [List.getD_eq_getElem?_getD]
    cases h : L[a]? with
    | none => decide
    | some x => exact hb x (List.mem_of_getElem? h)
  unfold res1 at hp
  split at hp
  · obtain ⟨h1, h3, h4⟩ := fell_mem hp
    exact ⟨by omega, by omega⟩
  · split at hp
    · cases hp
    · next a _ =>
      obtain ⟨h1, h3, h4⟩ := fell_mem hp
      have := hv a
      exact ⟨by omega, by omega⟩
end Go.Proofs.Chn
