/- Which events stay: the plain law. -/
import Derived.Test.YtpecleflhhbecaaApartPlain
namespace Go.Proofs.Chn

/-- chains one behind the other, from f up to n -/
def Rowed : Nat → Nat → List Ch → Prop
  | f, n, [] => f = n
  | f, n, c :: X => c.f = f ∧ f < c.t ∧ Rowed c.t n X
/-- what a chain's links are -/
structure Linked (B : Nat → Bool) (n : Nat) (c : Ch) : Prop where
  inn : ∀ j, c.f ≤ j → j + 1 < c.t → B j = true
  lst : B (c.t - 1) = c.o
  opn : c.o = true → c.t = n
  fst : c.f = 0 ∨ c.f = n ∨ B (c.f - 1) = false
theorem chs_all (L : List Bool) (B : Nat → Bool) (hB : ∀ i (h : i < L.length), B i = L[i]) : ∀ m f i, m = L.length - i → f ≤ i → i ≤ L.length → (i = L.length → f = i) → (∀ j, f ≤ j → j < i → B j = true) → (f = 0 ∨ f = L.length ∨ B (f - 1) = false) →
    Rowed f L.length (chs f i (L.drop i)) ∧ ∀ c ∈ chs f i (L.drop i), Linked B L.length c
  | 0, f, i, hm, hf, hi, he, _, _ => by
    have hn : i = L.length := by omega
    rw [chs_end L f i (by omega)]
    exact ⟨by have := he hn; show f = L.length; omega, fun c hc => by cases hc⟩
  | m + 1, f, i, hm, hf, hi, he, hj, h0 => by
    have hl : i < L.length := by omega
    rw [chs_at L f i hl]
    split
    · next h =>
      exact chs_all L B hB m f (i + 1) (by omega) (by omega) (by omega) (fun e => by omega) (fun j h1 h2 => by
        rcases Nat.lt_or_ge j i with h3 | h3
        · exact hj j h1 h3
        · obtain rfl : j = i := by omega
          rw [hB j hl]; exact h.1) h0
    · next h =>
      have hlast : i + 1 = L.length ∨ B i = false := by
        rw [hB i hl]
        cases hb : L[i] with
        | false => exact .inr rfl
        | true => exact .inl (by
            have : ¬ (i + 1 < L.length) := fun h' => h ⟨hb, h'⟩
            omega)
      have ih := chs_all L B hB m (i + 1) (i + 1) (by omega) (by omega) (by omega) (fun _ => rfl) (fun j h1 h2 => by omega) (.inr hlast)
      refine ⟨⟨rfl, by show f < i + 1; omega, ih.1⟩, fun c hc => ?_⟩
      rcases List.mem_cons.1 hc with rfl | hc
      · refine ⟨fun j h1 h2 => hj j h1 (by simp only at h2; omega), hB i hl, fun ho => ?_, h0⟩
        have : ¬ (i + 1 < L.length) := fun h' => h ⟨ho, h'⟩
        show i + 1 = L.length
        omega
      · exact ih.2 c hc
theorem rowed_mem {n : Nat} : ∀ {X : List Ch} {f : Nat}, Rowed f n X → f ≤ n ∧ ∀ c ∈ X, f ≤ c.f ∧ c.f < c.t ∧ c.t ≤ n
  | [], f, h => ⟨by have : f = n := h; omega, fun c hc => by cases hc⟩
  | x :: X, f, h => by
    obtain ⟨h1, h2, h3⟩ := h
    have ih := rowed_mem h3
    refine ⟨by omega, fun c hc => ?_⟩
    rcases List.mem_cons.1 hc with rfl | hc
    · omega
    · have := ih.2 c hc; omega
theorem rowed_at {n : Nat} : ∀ {X : List Ch} {f : Nat}, Rowed f n X → ∀ i, f ≤ i → i < n → ∃ c ∈ X, c.f ≤ i ∧ i < c.t
  | [], f, h, i, h1, h2 => by have : f = n := h; omega
  | x :: X, f, h, i, h1, h2 => by
    obtain ⟨e1, e2, e3⟩ := h
    rcases Nat.lt_or_ge i x.t with h3 | h3
    · exact ⟨x, by simp, by omega, h3⟩
    · obtain ⟨c, hc, h4⟩ := rowed_at e3 i h3 h2
      exact ⟨c, by simp [hc], h4⟩
/-- whether a chain falls -/
def falls (V : Nat → Nat) (c : Ch) : Bool := c.o || (bad V c.f (c.t - c.f)).isSome
/-- whether an event falls -/
def Fl (V : Nat → Nat) : List Ch → Nat → Bool
  | [], _ => false
  | c :: X, i => (falls V c && decide (c.f ≤ i) && decide (i < c.t)) || Fl V X i
theorem fl_lt {V : Nat → Nat} {n : Nat} : ∀ {X : List Ch} {f : Nat}, Rowed f n X → ∀ i, i < f → Fl V X i = false
  | [], _, _, _, _ => rfl
  | x :: X, f, h, i, hi => by
    obtain ⟨e1, e2, e3⟩ := h
    rw [Fl, fl_lt e3 i (by omega), decide_eq_false (show ¬ x.f ≤ i by omega)]
    simp
theorem fl_eq {V : Nat → Nat} {n : Nat} : ∀ {X : List Ch} {f : Nat}, Rowed f n X → ∀ c ∈ X, ∀ i, c.f ≤ i → i < c.t → Fl V X i = falls V c
  | [], _, _, c, hc, _, _, _ => by cases hc
  | x :: X, f, h, c, hc, i, h1, h2 => by
    obtain ⟨e1, e2, e3⟩ := h
    rw [Fl]
    rcases List.mem_cons.1 hc with rfl | hc
    · rw [fl_lt e3 i h2, decide_eq_true h1, decide_eq_true h2]; simp
    · have hm := (rowed_mem e3).2 c hc
      rw [decide_eq_false (show ¬ i < x.t by omega), fl_eq e3 c hc i h1 h2]; simp
section
variable {V : Nat → Nat} {n : Nat} {X : List Ch} {B : Nat → Bool}
theorem fl_link (h : Rowed 0 n X) (hl : ∀ c ∈ X, Linked B n c) {i : Nat} (h0 : 0 < i) (hi : i < n) (hb : B (i - 1) = true) : Fl V X (i - 1) = Fl V X i := by
  obtain ⟨c, hc, h1, h2⟩ := rowed_at h i (Nat.zero_le _) hi
  have hk := hl c hc
  have hcf : c.f ≠ i := fun e => by
    rcases hk.fst with h3 | h3 | h3
    · omega
    · omega
    · rw [e, hb] at h3; cases h3
  rw [fl_eq h c hc i h1 h2, fl_eq h c hc (i - 1) (by omega) (by omega)]
theorem fl_last (h : Rowed 0 n X) (hl : ∀ c ∈ X, Linked B n c) {i : Nat} (hi : i + 1 = n) (hb : B i = true) : Fl V X i = true := by
  obtain ⟨c, hc, h1, h2⟩ := rowed_at h i (Nat.zero_le _) (by omega)
  have hk := hl c hc
  have := (rowed_mem h).2 c hc
  have h3 := hk.lst
  rw [show c.t - 1 = i by omega, hb] at h3
  rw [fl_eq h c hc i h1 h2, falls, ← h3]; simp
theorem fl_one (h : Rowed 0 n X) (hl : ∀ c ∈ X, Linked B n c) {i : Nat} (hi : i < n) (hb : B i = false) (hp : i = 0 ∨ B (i - 1) = false) : Fl V X i = decide (V i ≠ 0) := by
  obtain ⟨c, hc, h1, h2⟩ := rowed_at h i (Nat.zero_le _) hi
  have hk := hl c hc
  have h3 : c.t = i + 1 := by
    rcases Nat.lt_or_ge (i + 1) c.t with h3 | h3
    · have := hk.inn i h1 h3; rw [hb] at this; cases this
    · omega
  have h4 : c.f = i := by
    rcases Nat.lt_or_ge c.f i with h4 | h4
    · rcases hp with h5 | h5
      · omega
      · have := hk.inn (i - 1) (by omega) (by omega); rw [h5] at this; cases this
    · omega
  have h5 := hk.lst
  rw [show c.t - 1 = i by omega, hb] at h5
  rw [fl_eq h c hc i h1 h2, falls, ← h5, h3, h4, show i + 1 - i = 1 by omega, bad, bad]
  by_cases h6 : V i = 0 <;> simp [h6]
end
theorem res_mem {V : Nat → Nat} {c : Ch} (hc : c.f < c.t) {p : Nat × Nat} (h : p ∈ res1 V c) : falls V c = true ∧ c.f ≤ p.1 ∧ p.1 < c.t ∧ p.2 ≠ 0 := by
  unfold res1 at h
  unfold falls
  split at h
  · next ho =>
    obtain ⟨h1, h3, h4⟩ := fell_mem h
    exact ⟨by simp [ho], by omega, by omega, by omega⟩
  · cases hb : bad V c.f (c.t - c.f) with
    | none => rw [hb] at h; cases h
    | some a =>
      rw [hb] at h
      obtain ⟨h1, h3, h4⟩ := fell_mem h
      have := (bad_some hb).2.2
      exact ⟨by simp, by omega, by omega, by omega⟩
theorem res_fst (V : Nat → Nat) (c : Ch) : (res1 V c).map (·.1) = if falls V c = true then List.range' c.f (c.t - c.f) else [] := by
  have hf : ∀ f n a v, (fell f n a v).map (·.1) = List.range' f n := fun f n a v => by
    rw [fell, List.map_map]
    exact (List.map_congr_left (fun _ _ => rfl)).trans (List.map_id _)
  unfold res1 falls
  split
  · next ho => rw [hf, if_pos (by simp [ho])]
  · next ho =>
    have ho' : c.o = false := by simpa using ho
    cases hb : bad V c.f (c.t - c.f) with
    | none => simp [ho']
    | some a => simp [hf, ho']
/-- the fallen events' places rise; each is one of the events; its verdict is not 0 -/
theorem results_rise {V : Nat → Nat} {n : Nat} : ∀ {X : List Ch} {f : Nat}, Rowed f n X → (∀ p ∈ results V X, f ≤ p.1 ∧ p.1 < n ∧ p.2 ≠ 0) ∧ ((results V X).map (·.1)).Pairwise (· < ·)
  | [], _, _ => ⟨fun p hp => (by cases hp), List.Pairwise.nil⟩
  | x :: X, f, h => by
    have hm := rowed_mem h
    obtain ⟨e1, e2, e3⟩ := h
    have ih := results_rise (V := V) e3
    have hx := hm.2 x (by simp)
    have hm3 := rowed_mem e3
    simp only [results, List.flatMap_cons, List.map_append] at *
    refine ⟨fun p hp => ?_, List.pairwise_append.2 ⟨?_, ih.2, fun a ha b hb => ?_⟩⟩
    · rcases List.mem_append.1 hp with hp | hp
      · have := res_mem (by omega) hp
        exact ⟨by omega, by omega, this.2.2.2⟩
      · have := ih.1 p hp
        exact ⟨by omega, by omega, this.2.2⟩
    · rw [res_fst]
      split
      · exact List.pairwise_lt_range'
      · exact List.Pairwise.nil
    · obtain ⟨p, hp, rfl⟩ := List.mem_map.1 ha
      obtain ⟨q, hq, rfl⟩ := List.mem_map.1 hb
      have := res_mem (by omega) hp
      have := ih.1 q hq
      omega
theorem fl_iff {V : Nat → Nat} : ∀ {X : List Ch} (i : Nat), Fl V X i = true ↔ i ∈ (results V X).map (·.1)
  | [], i => by simp [Fl, results]
  | x :: X, i => by
    have ih := fl_iff (V := V) (X := X) i
    simp only [results, List.flatMap_cons, List.map_append, List.mem_append] at *
    rw [Fl, Bool.or_eq_true, ih, res_fst]
    apply or_congr _ Iff.rfl
    cases falls V x with
    | false => simp
    | true => simp [List.mem_range'_1]; omega

/-- what is there, what is saved, behind one act more -/
def step (V : Nat → Nat) (p : List Nat × List Nat) (z : Int) : List Nat × List Nat :=
  if z = -1 then (p.1, p.1) else if z = -2 then (p.2, p.2) else if V z.toNat = 0 then (p.1 ++ [z.toNat], p.2) else p
def lay (V : Nat → Nat) (s : List Int) : List Nat × List Nat := s.foldl (step V) ([], [])
theorem lay_snoc (V : Nat → Nat) (s : List Int) (z : Int) : lay V (s ++ [z]) = step V (lay V s) z := by simp [lay, List.foldl_append]
theorem step_len (V : Nat → Nat) (p : List Nat × List Nat) (z : Int) (k : Nat) (h : p.1.length ≤ k ∧ p.2.length ≤ k) : (step V p z).1.length ≤ k + 1 ∧ (step V p z).2.length ≤ k + 1 := by
  unfold step
  split
  · exact ⟨by dsimp only; omega, by dsimp only; omega⟩
  · split
    · exact ⟨by dsimp only; omega, by dsimp only; omega⟩
    · split
      · exact ⟨by simp; omega, by dsimp only; omega⟩
      · omega
theorem fold_len (V : Nat → Nat) : ∀ (s : List Int) (p : List Nat × List Nat) (k : Nat), p.1.length ≤ k ∧ p.2.length ≤ k → (s.foldl (step V) p).1.length ≤ k + s.length ∧ (s.foldl (step V) p).2.length ≤ k + s.length
  | [], p, k, h => by simpa using h
  | z :: s, p, k, h => by
    have := fold_len V s (step V p z) (k + 1) (step_len V p z k h)
    rw [List.foldl_cons, List.length_cons]
    omega
theorem lay_len (V : Nat → Nat) (s : List Int) : (lay V s).1.length ≤ s.length ∧ (lay V s).2.length ≤ s.length := by
  have := fold_len V s ([], []) 0 ⟨Nat.le_refl _, Nat.le_refl _⟩
  simpa [lay] using this
theorem step_try (V : Nat → Nat) (p : List Nat × List Nat) (i : Nat) : step V p (i : Int) = if V i = 0 then (p.1 ++ [i], p.2) else p := by
  rw [step, if_neg (by omega), if_neg (by omega), Int.toNat_natCast]
theorem fold_tried (V : Nat → Nat) : ∀ (m i : Nat) (p : List Nat × List Nat), (tried V i m).foldl (step V) p = (p.1 ++ match bad V i m with | none => List.range' i m | some a => List.range' i (a - i), p.2)
  | 0, i, p => by simp [tried, bad]
  | m + 1, i, p => by
    rw [tried, bad, List.foldl_cons, step_try]
    by_cases h : V i = 0
    · rw [if_pos h, if_neg (by simp [h]), if_neg (by simp [h]), fold_tried V m (i + 1)]
      cases hb : bad V (i + 1) m with
      | none => simp [List.range'_succ]
      | some a =>
        have := (bad_some hb).1
        have e : List.range' i (a - i) = i :: List.range' (i + 1) (a - (i + 1)) := by
          rw [show a - i = (a - (i + 1)) + 1 by omega, List.range'_succ]
        simp [e]
    · rw [if_neg h, if_pos h, if_pos h]
      simp
theorem fold_act1 (V : Nat → Nat) (c : Ch) (hc : c.f < c.t) (p : List Nat × List Nat) : ((act1 V c).foldl (step V) p).1 = p.1 ++ if falls V c = true then [] else List.range' c.f (c.t - c.f) := by
  unfold act1 falls
  split
  · next ho => simp [ho]
  · next ho =>
    have ho' : c.o = false := by simpa using ho
    rw [List.foldl_append, List.foldl_append, fold_tried]
    by_cases h1 : 1 < c.t - c.f
    · rw [if_pos h1]
      have e : [(-1 : Int)].foldl (step V) p = (p.1, p.1) := rfl
      rw [e]
      cases hb : bad V c.f (c.t - c.f) with
      | none => simp [ho']
      | some a =>
        simp only [Option.isSome_some, h1, and_self, if_true, ho', Bool.or_true, List.append_nil]
        rfl
    · rw [if_neg h1]
      obtain ⟨m, hm⟩ : ∃ m, c.t - c.f = m + 1 := ⟨c.t - c.f - 1, by omega⟩
      obtain rfl : m = 0 := by omega
      rw [if_neg (by omega), hm, bad, bad]
      by_cases hv : V c.f = 0
      · simp [hv, ho']
      · simp [hv, ho']
theorem fold_acts {V : Nat → Nat} {n : Nat} : ∀ {X : List Ch} {f : Nat}, Rowed f n X → ∀ p, ((acts V X).foldl (step V) p).1 = p.1 ++ (List.range' f (n - f)).filter fun i => !Fl V X i
  | [], f, h, p => by
    have : f = n := h
    subst this
    simp [acts]
  | x :: X, f, h, p => by
    have hm := rowed_mem h
    obtain ⟨e1, e2, e3⟩ := h
    have hm3 := rowed_mem e3
    rw [show acts V (x :: X) = act1 V x ++ acts V X by simp [acts], List.foldl_append, fold_acts e3, fold_act1 V x (by omega), List.append_assoc]
    congr 1
    have hr : List.range' f (n - f) = List.range' f (x.t - f) ++ List.range' x.t (n - x.t) := by
      have := List.range'_append_1 (s := f) (m := x.t - f) (n := n - x.t)
      rw [show f + (x.t - f) = x.t by omega, show x.t - f + (n - x.t) = n - f by omega] at this
      exact this.symm
    rw [hr, List.filter_append]
    congr 1
    · have : ∀ i ∈ List.range' f (x.t - f), (!Fl V (x :: X) i) = !falls V x := fun i hi => by
        have := List.mem_range'_1.1 hi
        rw [fl_eq (V := V) (show Rowed f n (x :: X) from ⟨e1, e2, e3⟩) x (by simp) i (by omega) (by omega)]
      rw [List.filter_congr this]
      cases falls V x with
      | true => simp
      | false =>
        rw [e1]
        exact (List.filter_eq_self.2 (fun _ _ => rfl)).symm
    · refine List.filter_congr fun i hi => ?_
      have := List.mem_range'_1.1 hi
      rw [Fl, decide_eq_false (show ¬ i < x.t by omega)]
      simp
/-- the events that stay, in order -/
theorem lay_acts {V : Nat → Nat} {n : Nat} {X : List Ch} (h : Rowed 0 n X) : (lay V (acts V X)).1 = (List.range n).filter fun i => !Fl V X i := by
  have := fold_acts (V := V) h ([], [])
  rw [lay, this, List.nil_append, List.range_eq_range', Nat.sub_zero]
/-- the list of what stays, place by place -/
theorem stays_pre (p : Nat → Bool) (i : Nat) : ∀ n, i ≤ n → ∃ R, (List.range n).filter p = (List.range i).filter p ++ R
  | 0, h => ⟨[], by obtain rfl : i = 0 := by omega
                    simp⟩
  | n + 1, h => by
    rcases Nat.lt_or_ge n i with h1 | h1
    · obtain rfl : i = n + 1 := by omega
      exact ⟨[], by simp⟩
    · obtain ⟨R, hR⟩ := stays_pre p i n h1
      exact ⟨R ++ [n].filter p, by rw [List.range_succ, List.filter_append, hR, List.append_assoc]⟩
theorem stays_at (p : Nat → Bool) (i n : Nat) (h : i < n) (hp : p i = true) : ((List.range n).filter p)[((List.range i).filter p).length]? = some i ∧ ((List.range i).filter p).length < ((List.range n).filter p).length := by
  obtain ⟨R, hR⟩ := stays_pre p (i + 1) n h
  have e : (List.range (i + 1)).filter p = (List.range i).filter p ++ [i] := by
    rw [List.range_succ, List.filter_append]
    simp [hp]
  rw [hR, e, List.append_assoc]
  refine ⟨?_, by simp⟩
  rw [List.getElem?_append_right (Nat.le_refl _), Nat.sub_self]
  rfl
theorem stays_len (p : Nat → Bool) (i : Nat) : ((List.range (i + 1)).filter p).length = ((List.range i).filter p).length + if p i = true then 1 else 0 := by
  rw [List.range_succ, List.filter_append, List.length_append]
  cases h : p i <;> simp [h]
theorem stays_le (p : Nat → Bool) (n : Nat) : ((List.range n).filter p).length ≤ n := by
  have := List.length_filter_le p (List.range n)
  simpa using this
/-- the verdicts' marks -/
def mk (P : List Nat) (i : Nat) : Int := if i ∈ P then 1 else 0
def marks (P : List Nat) (n : Nat) : List Int := (List.range n).map (mk P)
theorem marks_at (P : List Nat) (n i : Nat) (h : i < n) : (marks P n)[i]? = some (mk P i) := by
  rw [marks, List.getElem?_map, List.getElem?_range h]; rfl
theorem marks_set (P : List Nat) (n a : Nat) : (marks P n).set a 1 = marks (P ++ [a]) n := by
  refine List.ext_getElem? fun i => ?_
  rw [List.getElem?_set]
  by_cases hi : i < n
  · by_cases h : a = i
    · subst h
      rw [if_pos rfl, if_pos (by simp [marks]; exact hi), marks_at _ _ _ hi]
      simp [mk]
    · rw [if_neg h, marks_at _ _ _ hi, marks_at _ _ _ hi]
      have : (i ∈ P ++ [a]) ↔ i ∈ P := by simp; exact fun e => absurd e.symm h
      simp only [mk, this]
  · have e : ∀ P : List Nat, (marks P n)[i]? = none := fun P => List.getElem?_eq_none (by simp [marks]; omega)
    rw [e, e]
    split
    · rw [if_neg (by simp [marks]; omega)]
    · rfl
theorem marks_nil (n : Nat) : marks [] n = List.replicate n 0 := by
  refine List.ext_getElem? fun i => ?_
  by_cases hi : i < n
  · rw [marks_at _ _ _ hi, List.getElem?_replicate, if_pos hi]; simp [mk]
  · rw [List.getElem?_eq_none (by simp [marks]; omega), List.getElem?_eq_none (by simp; omega)]
end Go.Proofs.Chn
