/- Slices of bools, of events that came in, read as lists. -/
import Derived.Test.YtpecleflhhbecaaFrame
import Derived.Test.YtpecleflhhbecaaChains
namespace Go.Proofs.Ytpecleflhhbecaa
open Go.ChangeShapes Go.WideShapes Go.ChangeAt Go.RowKit

theorem choose_list {α : Type} (n : Nat) (R : Nat → α → Prop) (h : ∀ i, i < n → ∃ x, R i x) : ∃ L : List α, L.length = n ∧ ∀ (i : Nat) (hi : i < L.length), R i L[i] :=
  ⟨List.ofFn fun i : Fin n => (h i.1 i.2).choose, by simp, fun i hi => by
    have hi' : i < n := by simpa using hi
    simpa using (h i hi').choose_spec⟩
theorem slice_in {t e : TypeId} {sz : Nat} (ht : Try.prog.underlying t = some (.slice e)) (hsz : Try.prog.cellsOf e = sz) (hp : 0 < sz) {H : Type} {enc : TypeId × Value → H} {W : World} {base : Nat} {v : Value} {d : DataW H} {p : List MemPlace}
    (hv : Value.okWide Try.prog W .any base t v) (h : DataW.Trod enc Try.prog W 0 (fun _ => true) true t v d p) :
    ∃ (A : Option Addr) (n c : Nat), v = .slice A n c ∧ n ≤ c ∧ c ≤ 9223372036854775807 ∧ (0 < n → ∃ b o, A = some ⟨b, o, none⟩ ∧ b < W.heap.size ∧ ∀ i, i < n → ∃ cs fuel y, cs.length = sz ∧ (∀ j, j < sz → W.cell? ⟨b, o + (i * sz + j), none⟩ = cs[j]?) ∧
      DataW.trod enc Try.prog W 0 (fun _ => true) true fuel e cs = some y) := by
  obtain ⟨a0, len0, cap0, rfl⟩ := okWide_slice ht hv
  obtain ⟨fuel, hf⟩ := h
  rcases DataW.trod_slice ht hf with ⟨hcs, _⟩ | ⟨a, len, cap, elems, rest, n, _, hcs, _, _, hlc, hm, hel, hall, _, _⟩
  · simp [Value.cells] at hcs
    obtain ⟨rfl, rfl, rfl⟩ := hcs
    exact ⟨none, 0, 0, rfl, Nat.le_refl _, by omega, fun h0 => by omega⟩
  · simp [Value.cells] at hcs
    obtain ⟨rfl, rfl, rfl⟩ := hcs
    rw [hsz] at hall
    have each : ∀ i, i < len0 → ∃ cs y, W.cells? 0 (a.add (i * sz)) sz = some cs ∧ DataW.trod enc Try.prog W 0 (fun _ => true) true n e cs = some y := fun i hi => by
      have h1 := hall i hi
      rw [List.getElem?_eq_getElem (by omega)] at h1
      obtain ⟨cs, h2, h3⟩ := Option.bind_eq_some_iff.1 h1
      exact ⟨cs, _, h2, h3⟩
    refine ⟨some a, len0, cap0, rfl, hlc, by unfold maxLen at hm; omega, fun h0 => ?_⟩
    obtain ⟨cs0, y0, hc0, _⟩ := each 0 h0
    obtain ⟨_, hl0, hcell0⟩ := World.cells?_some hc0
    obtain ⟨b, o, spot⟩ := a
    have k0 := hcell0 0 hp
    rw [List.getElem?_eq_getElem (by omega)] at k0
    have hspot : spot = none := by simpa [Addr.add] using World.cell?_spot k0
    subst hspot
    rw [addAt, addAt, Nat.zero_mul, Nat.add_zero] at k0
    refine ⟨b, o, rfl, lt_of_cell k0, fun i hi => ?_⟩
    obtain ⟨cs, y, hc, ht2⟩ := each i hi
    obtain ⟨_, hl, hcell⟩ := World.cells?_some hc
    refine ⟨cs, n, y, hl, fun j hj => ?_, ht2⟩
    have := hcell j hj
    rw [addAt, addAt, Nat.add_assoc] at this
    exact this

theorem bools_in {H : Type} {enc : TypeId × Value → H} {W : World} {base : Nat} {v : Value} {d : DataW H} {p : List MemPlace} (hv : Value.okWide Try.prog W .any base 35 v) (h : DataW.Trod enc Try.prog W 0 (fun _ => true) true 35 v d p) :
    ∃ (A : Option Addr) (c : Nat) (L : List Bool), v = .slice A L.length c ∧ Rd W A (L.map bo) := by
  obtain ⟨A, n, c, rfl, _, _, hr⟩ := slice_in Try.underlying35 (show Try.prog.cellsOf 4 = 1 by kernel_rfl) (by decide) hv h
  rcases Nat.eq_zero_or_pos n with rfl | hn
  · exact ⟨A, c, [], rfl, Rd.nil _ _⟩
  · obtain ⟨b, o, rfl, hlt, hall⟩ := hr hn
    obtain ⟨L, hL, hLi⟩ := choose_list n (fun i (x : Bool) => W.cell? ⟨b, o + i, none⟩ = some (bo x)) (fun i hi => by
      obtain ⟨cs, fuel, y, hl, hc, ht⟩ := hall i hi
      obtain ⟨x, rfl, _⟩ := DataW.trod_bool Try.underlying4 ht
      have := hc 0 (by decide)
      rw [Nat.mul_one, Nat.add_zero] at this
      exact ⟨x, this⟩)
    refine ⟨_, c, L, by rw [hL], fun _ => ⟨b, o, rfl, hlt, fun i v hi => ?_⟩⟩
    rw [List.getElem?_map] at hi
    rcases Nat.lt_or_ge i L.length with h1 | h1
    · rw [List.getElem?_eq_getElem h1] at hi
      rw [hLi i h1]
      simpa using hi
    · rw [List.getElem?_eq_none h1] at hi
      cases hi

/-- an event: whether it is linked, its own verdict -/
def ecell (x : Bool × Nat) : List Value := [.bool x.1, .int .u32 (x.2 : Int)]
def evCells (L : List (Bool × Nat)) : List Value := L.flatMap ecell
theorem evCells_inv (L : List (Bool × Nat)) : ∀ (i : Nat) (v : Value), (evCells L)[i]? = some v → ∃ (k : Nat) (hk : k < L.length), (i = k * 2 + 0 ∧ v = .bool L[k].1) ∨ (i = k * 2 + 1 ∧ v = .int .u32 (L[k].2 : Int)) := by
  induction L with
  | nil => intro i v h; simp [evCells] at h
  | cons x l ih =>
    intro i v h
    match i with
    | 0 => simp [evCells, ecell] at h; exact ⟨0, by simp, .inl ⟨rfl, h.symm⟩⟩
    | 1 => simp [evCells, ecell] at h; exact ⟨0, by simp, .inr ⟨rfl, h.symm⟩⟩
    | i + 2 =>
      have h' : (evCells l)[i]? = some v := by simpa [evCells, ecell] using h
      obtain ⟨k, hk, h1⟩ := ih i v h'
      refine ⟨k + 1, by simpa using hk, ?_⟩
      rcases h1 with ⟨rfl, rfl⟩ | ⟨rfl, rfl⟩
      · exact .inl ⟨by omega, by simp⟩
      · exact .inr ⟨by omega, by simp⟩
theorem evCells_at (L : List (Bool × Nat)) : ∀ (k : Nat) (hk : k < L.length) (j : Nat) (u : Value), (ecell L[k])[j]? = some u → (evCells L)[k * 2 + j]? = some u := by
  induction L with
  | nil => intro k hk; simp at hk
  | cons x l ih =>
    intro k hk j u hu
    cases k with
    | zero =>
      simp only [evCells, List.flatMap_cons] at *
      have hj : j < (ecell x).length := (List.getElem?_eq_some_iff.1 hu).1
      rw [Nat.zero_mul, Nat.zero_add, List.getElem?_append_left hj]
      exact hu
    | succ k =>
      simp only [evCells, List.flatMap_cons] at *
      rw [List.getElem?_append_right (by simp [ecell]; omega)]
      have := ih k (by simpa using hk) j u hu
      rw [show (k + 1) * 2 + j - (ecell x).length = k * 2 + j by simp [ecell]; omega]
      exact this
theorem bound_u32 {a : Int} (h : (Lit.int .u32 a).wf = true) : ∃ x : Nat, a = x ∧ x < 4294967296 := by
  have := bounds_u32 h
  exact ⟨a.toNat, by omega, by omega⟩
theorem events_in {H : Type} {enc : TypeId × Value → H} {W : World} {base : Nat} {v : Value} {d : DataW H} {p : List MemPlace} (hv : Value.okWide Try.prog W .any base 41 v) (h : DataW.Trod enc Try.prog W 0 (fun _ => true) true 41 v d p) :
    ∃ (A : Option Addr) (c : Nat) (L : List (Bool × Nat)), v = .slice A L.length c ∧ L.length ≤ c ∧ Rd W A (evCells L) ∧ ∀ x ∈ L, x.2 < 4294967296 := by
  obtain ⟨A, n, c, rfl, hnc, _, hr⟩ := slice_in Try.underlying41 (show Try.prog.cellsOf 57 = 2 by kernel_rfl) (by decide) hv h
  rcases Nat.eq_zero_or_pos n with rfl | hn
  · exact ⟨A, c, [], rfl, hnc, Rd.nil _ _, fun x hx => by cases hx⟩
  · obtain ⟨b, o, rfl, hlt, hall⟩ := hr hn
    obtain ⟨L, hL, hLi⟩ := choose_list n (fun i (x : Bool × Nat) => x.2 < 4294967296 ∧ W.cell? ⟨b, o + (i * 2 + 0), none⟩ = some (.bool x.1) ∧ W.cell? ⟨b, o + (i * 2 + 1), none⟩ = some (.int .u32 (x.2 : Int))) (fun i hi => by
      obtain ⟨cs, fuel, y, hl, hc, ht⟩ := hall i hi
      match cs, hl with
      | [c0, c1], _ =>
        obtain ⟨xs, m, _, _, _, hlen, hfs⟩ := DataW.trod_struct Try.underlying57 ht
        match xs, hlen with
        | [x0, x1], _ =>
          have k4 : Try.prog.cellsOf 4 = 1 := by kernel_rfl
          have k49 : Try.prog.cellsOf 49 = 1 := by kernel_rfl
          have h0 : DataW.trod enc Try.prog W 0 (fun _ => true) true m 4 ((([c0, c1] : List Value).drop 0).take (Try.prog.cellsOf 4)) = some x0 := hfs 0 _ rfl
          have h1 : DataW.trod enc Try.prog W 0 (fun _ => true) true m 49 ((([c0, c1] : List Value).drop 1).take (Try.prog.cellsOf 49)) = some x1 := hfs 1 _ rfl
          rw [k4] at h0
          rw [k49] at h1
          obtain ⟨z, e0, _⟩ := DataW.trod_bool Try.underlying4 h0
          obtain ⟨a, e1, _, wz⟩ := DataW.trod_int Try.underlying49 h1
          obtain ⟨a, rfl, ha⟩ := bound_u32 wz
          have f0 : c0 = Value.bool z := by injection (show [c0] = [Value.bool z] from e0)
          have f1 : c1 = Value.int .u32 (a : Int) := by injection (show [c1] = [Value.int .u32 (a : Int)] from e1)
          exact ⟨(z, a), ha, (hc 0 (by decide)).trans (by rw [f0]; rfl), (hc 1 (by decide)).trans (by rw [f1]; rfl)⟩)
    refine ⟨_, c, L, by rw [hL], by rw [hL]; exact hnc, fun _ => ⟨b, o, rfl, hlt, fun i v hi => ?_⟩, fun x hx => ?_⟩
    · obtain ⟨k, hk, h1⟩ := evCells_inv L i v hi
      have := hLi k hk
      rcases h1 with ⟨rfl, rfl⟩ | ⟨rfl, rfl⟩
      · exact this.2.1
      · exact this.2.2
    · obtain ⟨k, hk, rfl⟩ := List.mem_iff_getElem.1 hx
      exact (hLi k hk).1
end Go.Proofs.Ytpecleflhhbecaa
